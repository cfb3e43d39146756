/- The program's integers: sums, small ones, which are right. Printed by gen_pzed2.py. -/
import Derived.Test.YtooonjcpdbbniaaGreatDoorPZed
import Derived.Test.YtooonjcpdbbniaaGreatDoorZed2
import Derived.Test.YtooonjcpdbbniaaGreatDoorAdd
import Derived.Test.YtooonjcpdbbniaaGreatDoorSub
namespace Go.Proofs.YtooonjcpdbbniaaGreatDoor
open Go.RowKit
attribute [local go_sem ↓] Go.wp_at_zero Go.wp_at_succ

set_option maxHeartbeats 4000000 in
theorem pzadd_any (va vb : Value) (a b : Int) (w : World) (ha : IsZ w va a) (hb : IsZ w vb b) (sa : Sz a.natAbs 400000) (sb : Sz b.natAbs 400000) :
    Calls Tryz.prog 13 #[va, vb] w fun e w' => ∃ v', e = .returned v' ∧ IsZ w' v' (a + b) ∧ Below w.heap.size w w' := by
  obtain ⟨na, rfl, ha⟩ := ha
  obtain ⟨nb, rfl, hb⟩ := hb
  have hAdd := fun w ha hb => add_any na nb a.natAbs b.natAbs w ha hb (sa.fin (by omega)) (sb.fin (by omega))
  have hSab := fun w ha hb h => sub_any na nb a.natAbs b.natAbs w ha hb (sa.fin (by omega)) (sb.fin (by omega)) h
  have hSba := fun w ha hb h => sub_any nb na b.natAbs a.natAbs w hb ha (sb.fin (by omega)) (sa.fin (by omega)) h
  have hLs := fun w ha hb h => sub_less na nb a.natAbs b.natAbs w ha hb h
  have hM := fun s v n w hn => pzmade_any s v n w hn
  obtain ⟨c, hc⟩ : ∃ c, c = a + b := ⟨_, rfl⟩
  rw [← hc]
  rw [← sided_of a, ← sided_of b] at hc
  generalize decide (a < 0) = s1 at *
  generalize decide (b < 0) = s2 at *
  generalize a.natAbs = x at *
  generalize b.natAbs = y at *
  obtain ⟨W0, hW, hT, hR, hB⟩ := box3 w 25 25 25 #[.bool s1, na] #[.bool s2, nb] #[.bool false, .slice none 0 0]
  obtain ⟨g, hg⟩ : ∃ g, g = w.heap.size := ⟨_, rfl⟩
  have hW' := Lib.hid (And.intro hW hg)
  rw [← hg] at hT hR
  clear hW hg
  have ha := ha.below hB
  have hb := hb.below hB
  have CT := hT.cells22
  by_cases hs : s1 = s2
  · subst hs
    rw [sided_add_same] at hc
    have hM := fun v w hn => hM s1 v (x + y) w hn
    rw [← hc] at hM
    clear hc hSab hSba hLs
    have hAdd := fun w ha hb => hAdd w ha hb
    generalize x + y = n at *
    obtain ⟨q00, q01, q10, q11⟩ := CT
    go_enter Tryz.func13, Tryz.ntmps13
    go_wp2
    rw [← hW'.out.1, ← hW'.out.2]
    go_region_held3 (fun w' => w'.cell? ⟨g, 0, none⟩ = some (.bool s1) ∧ w'.cell? ⟨g, 1, none⟩ = some na ∧ w'.cell? ⟨g + 1, 0, none⟩ = some (.bool s1) ∧ w'.cell? ⟨g + 1, 1, none⟩ = some nb) (first | exact Two.cells22 (by assumption) | exact Two.cells22 (Two.far2 (by assumption) _ _))
      (first
        | (go_at_call 35; refine (hAdd _ ?_ ?_).mono ?_; exact ha; exact hb; rintro x w1 ⟨v1, rfl, h1, b1⟩; have b1 := undrew b1; have hT1 := hT.below b1 hT.lt; have hR1 := hR.below b1 hR.lt; have hB1 := hB.trans (b1.mono hB.size))
        | (go_at_call 29; refine (hM _ _ ?_).mono ?_; exact h1; rintro x w2 ⟨v2, rfl, ⟨n2, rfl, h2⟩, b2⟩; obtain ⟨A2, L2, C2, rfl⟩ := h2.frm; have hT2 := hT1.below b2 hT1.lt; have hR2 := hR1.below b2 hR1.lt; have hB2 := hB1.trans (b2.mono hB1.size); have q0 := hR2.cell 0; have q1 := hR2.cell 1; have z0 := hR2.frozen 0; have z1 := hR2.frozen 1))
    obtain ⟨p1, p2, p3⟩ := put2 hR2 (.bool (decide (c < 0))) (.slice A2 L2 C2) (by simp [noU]) hB2 (by rw [hW'.out.2]; omega)
    have q0 := hR2.cell 0
    have z0 := hR2.frozen 0
    have q1 := hR2.cell 1
    have z1 := hR2.frozen 1
    have P := Lib.hid (And.intro (⟨_, rfl, p2 _ _ h2⟩ : IsZ _ (.agg #[.bool (decide (c < 0)), .slice A2 L2 C2]) c) (And.intro p3 p1.cells2))
    clear p1 p2 p3 
    go_wp2
    obtain ⟨P1, P2, P3, P4⟩ := P.out
    exact bodyPost_ret (v := .agg #[.bool (decide (c < 0)), .slice A2 L2 C2]) (by simp [results, Tryz.results13, go_sem, P3, P4, q0, q1]) rfl ⟨_, rfl, P1, P2⟩
  · by_cases hle : y ≤ x
    · rw [sided_add_ge _ _ _ _ hs hle] at hc
      have hSab := fun w ha hb => hSab w ha hb hle
      have hM := fun v w hn => hM s1 v (x - y) w hn
      rw [← hc] at hM
      clear hc
      generalize x - y = n at *
      obtain ⟨q00, q01, q10, q11⟩ := CT
      have hne : (s1 == s2) = false := by simpa using hs
      have hne2 : decide (s1 = s2) = false := decide_eq_false hs
      have HS := Lib.hid hs
      clear hs
      go_enter Tryz.func13, Tryz.ntmps13
      go_wp2_with fail
      rw [← hW'.out.1, ← hW'.out.2]
      refine (hSab _ ha hb).mono ?_
      rintro e w2 ⟨v2, rfl, h2, b2⟩
      have hT := hT.below b2 hT.lt
      have hR := hR.below b2 hR.lt
      have hB := hB.trans (b2.mono hB.size)
      have ha := ha.below b2
      have hb := hb.below b2
      obtain ⟨q00, q01, q10, q11⟩ := hT.cells22
      go_wp2_with fail
      refine (hM _ _ h2).mono ?_
      rintro e w3 ⟨v3, rfl, ⟨n3, rfl, h3⟩, b3⟩
      obtain ⟨A3, L3, C3, rfl⟩ := h3.frm
      have hR := hR.below b3 hR.lt
      have hB := hB.trans (b3.mono hB.size)
      clear hM hAdd
      obtain ⟨p1, p2, p3⟩ := put2 hR (.bool (decide (c < 0))) (.slice A3 L3 C3) (by simp [noU]) hB (by rw [hW'.out.2]; omega)
      have q0 := hR.cell 0
      have z0 := hR.frozen 0
      have q1 := hR.cell 1
      have z1 := hR.frozen 1
      have P := Lib.hid (And.intro (⟨_, rfl, p2 _ _ h3⟩ : IsZ _ (.agg #[.bool (decide (c < 0)), .slice A3 L3 C3]) c) (And.intro p3 p1.cells2))
      clear p1 p2 p3 
      go_wp2
      obtain ⟨P1, P2, P3, P4⟩ := P.out
      exact bodyPost_ret (v := .agg #[.bool (decide (c < 0)), .slice A3 L3 C3]) (by simp [results, Tryz.results13, go_sem, P3, P4, q0, q1]) rfl ⟨_, rfl, P1, P2⟩
    · rw [sided_add_lt _ _ _ _ hs (by omega)] at hc
      have hSba := fun w ha hb => hSba w ha hb (by omega)
      have hLs := fun w ha hb => hLs w ha hb (by omega)
      have hM := fun v w hn => hM s2 v (y - x) w hn
      rw [← hc] at hM
      clear hc
      generalize y - x = n at *
      obtain ⟨q00, q01, q10, q11⟩ := CT
      have hne : (s1 == s2) = false := by simpa using hs
      have hne2 : decide (s1 = s2) = false := decide_eq_false hs
      have HS := Lib.hid hs
      clear hs
      go_enter Tryz.func13, Tryz.ntmps13
      go_wp2_with fail
      rw [← hW'.out.1, ← hW'.out.2]
      refine (hLs _ ha hb).mono ?_
      rintro e w1 ⟨rfl, b1⟩
      have hT := hT.below b1 hT.lt
      have hR := hR.below b1 hR.lt
      have hB := hB.trans (b1.mono hB.size)
      have ha := ha.below b1
      have hb := hb.below b1
      obtain ⟨q00, q01, q10, q11⟩ := hT.cells22
      go_wp2_with fail
      refine (hSba _ ha hb).mono ?_
      rintro e w2 ⟨v2, rfl, h2, b2⟩
      have hT := hT.below b2 hT.lt
      have hR := hR.below b2 hR.lt
      have hB := hB.trans (b2.mono hB.size)
      have ha := ha.below b2
      have hb := hb.below b2
      obtain ⟨q00, q01, q10, q11⟩ := hT.cells22
      go_wp2_with fail
      refine (hM _ _ h2).mono ?_
      rintro e w3 ⟨v3, rfl, ⟨n3, rfl, h3⟩, b3⟩
      obtain ⟨A3, L3, C3, rfl⟩ := h3.frm
      have hR := hR.below b3 hR.lt
      have hB := hB.trans (b3.mono hB.size)
      clear hM hAdd
      obtain ⟨p1, p2, p3⟩ := put2 hR (.bool (decide (c < 0))) (.slice A3 L3 C3) (by simp [noU]) hB (by rw [hW'.out.2]; omega)
      have q0 := hR.cell 0
      have z0 := hR.frozen 0
      have q1 := hR.cell 1
      have z1 := hR.frozen 1
      have P := Lib.hid (And.intro (⟨_, rfl, p2 _ _ h3⟩ : IsZ _ (.agg #[.bool (decide (c < 0)), .slice A3 L3 C3]) c) (And.intro p3 p1.cells2))
      clear p1 p2 p3 
      go_wp2
      obtain ⟨P1, P2, P3, P4⟩ := P.out
      exact bodyPost_ret (v := .agg #[.bool (decide (c < 0)), .slice A3 L3 C3]) (by simp [results, Tryz.results13, go_sem, P3, P4, q0, q1]) rfl ⟨_, rfl, P1, P2⟩
set_option maxHeartbeats 2000000 in
/-- does it fit into 64 bits, and which one is it -/
theorem pzint_any (v : Value) (z : Int) (w : World) (h : IsZ w v z) :
    Calls Tryz.prog 11 #[v] w fun e w' => e = .returned (.tuple #[.int .i64 (fitV z), .bool (fitB z)]) ∧ Below w.heap.size w w' := by
  obtain ⟨nv, rfl, hn⟩ := h
  have hS := fun w hn => small_any nv (limbs z.natAbs) w hn
  obtain ⟨W0, hW, hR, hB⟩ := box1 w 25 #[.bool (decide (z < 0)), nv]
  obtain ⟨g, hg⟩ : ∃ g, g = w.heap.size := ⟨_, rfl⟩
  have hW' := Lib.hid (And.intro hW hg)
  rw [← hg] at hR
  clear hW hg
  have hn := hn.below hB
  have HB := Lib.hid hB
  obtain ⟨q0, q1⟩ := hR.cells2
  by_cases hbig : z.natAbs < W64
  · obtain ⟨l1, l2⟩ := limb1 hbig
    simp only [if_pos l1, l2] at hS
    unfold W64 at hbig
    clear l1 l2
    obtain ⟨x, hx⟩ : ∃ x : Nat, x = z.natAbs := ⟨_, rfl⟩
    by_cases h3 : z < 0
    · have d1 : decide (z < 0) = true := decide_eq_true h3
      rw [d1] at hW' q0
      rw [d1]
      by_cases h1 : z < -9223372036854775808
      · have e1 : fitV z = 0 ∧ fitB z = false := ⟨if_neg (by omega), decide_eq_false (by omega)⟩
        rw [e1.1, e1.2]
        have d2 : IntKind.i64.wrap (x : Int) = (x : Int) - 18446744073709551616 := by rw [IntKind.wrap_i64]; omega
        have d3 : IntKind.i64.wrap (-((x : Int) - 18446744073709551616)) = 18446744073709551616 - (x : Int) := by rw [IntKind.wrap_i64]; omega
        have d4 : (18446744073709551616 - (x : Int) != 0) = true := by rw [bne_iff_ne]; omega
        have d5 : decide (18446744073709551616 - (x : Int) < 0) = false := decide_eq_false (by omega)
        rw [← hx] at hS hn
        clear d1 e1 h1 h3 hbig hx
        go_enter Tryz.func11, Tryz.ntmps11
        go_wp2_with fail
        rw [← hW'.out.1, ← hW'.out.2]
        refine (hS _ hn).mono ?_
        rintro e w1 ⟨rfl, rfl⟩
        go_wp2
        go_ret2
        exact ⟨rfl, HB.out⟩
      · by_cases h2 : z = -9223372036854775808
        · have e1 : fitV z = -9223372036854775808 ∧ fitB z = true := ⟨by rw [h2]; rfl, by rw [h2]; rfl⟩
          rw [e1.1, e1.2]
          have d2 : z.natAbs = 9223372036854775808 := by omega
          rw [d2] at hS hn
          have f1 : wrap64 9223372036854775808 = -9223372036854775808 := by unfold wrap64; omega
          have f2 : IntKind.i64.wrap 9223372036854775808 = -9223372036854775808 := by rw [IntKind.wrap_i64]; omega
          clear d1 e1 h1 h2 d2 hbig hx h3
          go_enter Tryz.func11, Tryz.ntmps11
          go_wp2_with fail
          rw [← hW'.out.1, ← hW'.out.2]
          refine (hS _ hn).mono ?_
          rintro e w1 ⟨rfl, rfl⟩
          go_wp2
          go_ret2
          exact ⟨rfl, HB.out⟩
        · have e1 : fitV z = z ∧ fitB z = true := ⟨if_pos (by omega), decide_eq_true (by omega)⟩
          rw [e1.1, e1.2]
          have ez : z = -(x : Int) := by omega
          have d2 : IntKind.i64.wrap (x : Int) = (x : Int) := by rw [IntKind.wrap_i64]; omega
          have d3 : IntKind.i64.wrap (-(x : Int)) = -(x : Int) := by rw [IntKind.wrap_i64]; omega
          have d4 : (-(x : Int) != 0) = true := by rw [bne_iff_ne]; omega
          have d5 : decide (-(x : Int) < 0) = true := decide_eq_true (by omega)
          have d6 : decide (0 < (x : Int)) = true := decide_eq_true (by omega)
          have d7 : 0 < x := by omega
          have d8 : ¬ x = 0 := by omega
          rw [← hx] at hS hn
          have EZ := Lib.hid ez
          clear d1 e1 h1 h2 h3 hbig hx ez
          go_enter Tryz.func11, Tryz.ntmps11
          go_wp2_with fail
          rw [← hW'.out.1, ← hW'.out.2]
          refine (hS _ hn).mono ?_
          rintro e w1 ⟨rfl, rfl⟩
          go_wp2
          go_ret2
          exact ⟨by rw [EZ.out]; rfl, HB.out⟩
    · have d1 : decide (z < 0) = false := decide_eq_false h3
      rw [d1] at hW' q0
      rw [d1]
      by_cases h4 : z ≤ 9223372036854775807
      · have e1 : fitV z = z ∧ fitB z = true := ⟨if_pos (by omega), decide_eq_true (by omega)⟩
        rw [e1.1, e1.2]
        have ez : z = (x : Int) := by omega
        have d2 : IntKind.i64.wrap (x : Int) = (x : Int) := by rw [IntKind.wrap_i64]; omega
        have d5 : decide ((x : Int) < 0) = false := decide_eq_false (by omega)
        rw [← hx] at hS hn
        have EZ := Lib.hid ez
        clear d1 e1 h3 h4 hbig hx ez
        by_cases h0 : x = 0
        · subst h0
          go_enter Tryz.func11, Tryz.ntmps11
          go_wp2_with fail
          rw [← hW'.out.1, ← hW'.out.2]
          refine (hS _ hn).mono ?_
          rintro e w1 ⟨rfl, rfl⟩
          go_wp2
          go_ret2
          exact ⟨by rw [EZ.out]; rfl, HB.out⟩
        · have d4 : ((x : Int) != 0) = true := by rw [bne_iff_ne]; omega
          go_enter Tryz.func11, Tryz.ntmps11
          go_wp2_with fail
          rw [← hW'.out.1, ← hW'.out.2]
          refine (hS _ hn).mono ?_
          rintro e w1 ⟨rfl, rfl⟩
          go_wp2
          go_ret2
          exact ⟨by rw [EZ.out]; rfl, HB.out⟩
      · have e1 : fitV z = 0 ∧ fitB z = false := ⟨if_neg (by omega), decide_eq_false (by omega)⟩
        rw [e1.1, e1.2]
        have d2 : IntKind.i64.wrap (x : Int) = (x : Int) - 18446744073709551616 := by rw [IntKind.wrap_i64]; omega
        have d4 : ((x : Int) - 18446744073709551616 != 0) = true := by rw [bne_iff_ne]; omega
        have d5 : decide ((x : Int) - 18446744073709551616 < 0) = true := decide_eq_true (by omega)
        rw [← hx] at hS hn
        clear d1 e1 h3 h4 hbig hx
        go_enter Tryz.func11, Tryz.ntmps11
        go_wp2_with fail
        rw [← hW'.out.1, ← hW'.out.2]
        refine (hS _ hn).mono ?_
        rintro e w1 ⟨rfl, rfl⟩
        go_wp2
        go_ret2
        exact ⟨rfl, HB.out⟩
  · have hl : ¬ (limbs z.natAbs).length ≤ 1 := by
      intro hl
      have := lt_of_limbs_len hl
      rw [Nat.pow_one] at this
      exact hbig this
    simp only [if_neg hl] at hS
    have e1 : fitV z = 0 ∧ fitB z = false := by
      unfold W64 at hbig
      exact ⟨if_neg (by omega), decide_eq_false (by omega)⟩
    rw [e1.1, e1.2]
    clear e1 hl hbig
    generalize decide (z < 0) = s at *
    cases s
    all_goals
      go_enter Tryz.func11, Tryz.ntmps11
      go_wp2_with fail
      rw [← hW'.out.1, ← hW'.out.2]
      refine (hS _ hn).mono ?_
      rintro e w1 ⟨rfl, rfl⟩
      go_wp2
      go_ret2
      exact ⟨rfl, HB.out⟩
/-- is an integer right? -/
def rightZ (b : Bool) (l : List Nat) : Bool := decide (l = [] ∨ lat l (l.length - 1) ≠ 0) && !(b && decide (l.length = 0))
set_option maxHeartbeats 1000000 in
theorem pzright_any (b : Bool) (nv : Value) (l : List Nat) (w : World) (h : IsL w nv l) :
    Calls Tryz.prog 6 #[.agg #[.bool b, nv]] w fun e w' => e = .returned (.bool (rightZ b l)) ∧ Below w.heap.size w w' := by
  unfold rightZ
  have hS := fun w hn => right_any nv l w hn
  obtain ⟨W0, hW, hR, hB⟩ := box1 w 25 #[.bool b, nv]
  obtain ⟨g, hg⟩ : ∃ g, g = w.heap.size := ⟨_, rfl⟩
  have hW' := Lib.hid (And.intro hW hg)
  rw [← hg] at hR
  clear hW hg
  have hn := h.below hB
  have HB := Lib.hid hB
  obtain ⟨A, c, rfl, _⟩ := id h
  obtain ⟨q0, q1⟩ := hR.cells2
  generalize decide (l = [] ∨ lat l (l.length - 1) ≠ 0) = r at *
  have hl0 : ((l.length : Int) == 0) = decide (l.length = 0) := by rw [Bool.eq_iff_iff]; simp
  generalize decide (l.length = 0) = d at *
  clear h
  cases r <;> cases b <;> cases d
  all_goals
    go_enter Tryz.func6, Tryz.ntmps6
    go_wp2_with fail
    rw [← hW'.out.1, ← hW'.out.2]
    refine (hS _ hn).mono ?_
    rintro e w1 ⟨rfl, rfl⟩
    go_wp2
    go_ret
    exact ⟨rfl, HB.out⟩
end Go.Proofs.YtooonjcpdbbniaaGreatDoor
