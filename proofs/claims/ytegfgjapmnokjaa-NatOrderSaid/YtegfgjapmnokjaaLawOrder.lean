/- ORDER of layer 1: of two the other way round, of three it goes on, sums and products keep it. No condition. -/
import Derived.Test.YtegfgjapmnokjaaNatAid
import Derived.Test.YtegfgjapmnokjaaOpen
namespace Go.Proofs.Ytegfgjapmnokjaa
open Go.ChangeShapes Go.WideShapes Go.ChangeAt Go.RowKit

set_option maxHeartbeats 1000000 in
theorem NatOrder_bad (va vb vc : Value) (la lb lc : List Nat) (w : World) (h_a : IsL w va la) (h_b : IsL w vb lb) (h_c : IsL w vc lc) (hg : (good la && good lb && good lc) = false) :
    Calls Try.prog 5 #[va, vb, vc] w fun e w' => e = .returned (.bool true) ∧ Below w.heap.size w w' := by
  obtain ⟨Aa, ma, ca, rfl⟩ := h_a.form
  obtain ⟨Ab, mb, cb, rfl⟩ := h_b.form
  obtain ⟨Ac, mc, cc, rfl⟩ := h_c.form
  have B : Below w.heap.size w (w.alloc (.cells #[.slice Aa ma ca, .slice Ab mb cb, .slice Ac mc cc] 23)) := (Below.refl _ w).alloc (Nat.le_refl _) _
  have GV : Hid (Calls Try.prog 16 #[.slice (some ⟨w.heap.size, 0, none⟩) 3 3] (w.alloc (.cells #[.slice Aa ma ca, .slice Ab mb cb, .slice Ac mc cc] 23)) fun e w' => e = .returned (.bool false) ∧ (w.alloc (.cells #[.slice Aa ma ca, .slice Ab mb cb, .slice Ac mc cc] 23)) = w') := by
    have := given_any (some ⟨w.heap.size, 0, none⟩) 3 [(.slice Aa ma ca, la), (.slice Ab mb cb, lb), (.slice Ac mc cc, lc)] (w.alloc (.cells #[.slice Aa ma ca, .slice Ab mb cb, .slice Ac mc cc] 23)) (by simpa using Reads.fresh w 23 [.slice Aa ma ca, .slice Ab mb cb, .slice Ac mc cc] 3 rfl) (by
      intro p hp
      simp only [List.mem_cons, List.not_mem_nil, or_false] at hp
      rcases hp with rfl | rfl | rfl
      · exact IsL.below h_a B
      · exact IsL.below h_b B
      · exact IsL.below h_c B) (by simp)
    have e : ([(.slice Aa ma ca, la), (.slice Ab mb cb, lb), (.slice Ac mc cc, lc)] : List (Value × List Nat)).all (fun p => good p.2) = false := by
      simp only [List.all_cons, List.all_nil, Bool.and_true]
      rw [← Bool.and_assoc] ; exact hg
    rw [e] at this
    exact this
  go_enter Try.func5, Try.ntmps5
  go_wp2_with fail
  refine GV.out.mono ?_
  rintro e w0 ⟨rfl, rfl⟩
  go_wp2_with fail
  refine (alive01_any _).mono ?_
  rintro e w1 ⟨rfl, b1⟩
  go_wp2
  go_ret
  exact ⟨rfl, B.trans (b1.mono B.size)⟩

set_option maxRecDepth 100000 in
set_option maxHeartbeats 4000000 in
theorem NatOrder_lt (va vb vc : Value) (na nb nc : Nat) (w : World) (h_a : IsN w va na) (h_b : IsN w vb nb) (h_c : IsN w vc nc) (sa : Sz na 20) (sb : Sz nb 20) (sc : Sz nc 20) (hr : na < nb) :
    Calls Try.prog 5 #[va, vb, vc] w fun e w' => e = .returned (.bool true) ∧ Below w.heap.size w w' := by
  obtain ⟨Aa, ma, ca, rfl⟩ := h_a.form
  obtain ⟨Ab, mb, cb, rfl⟩ := h_b.form
  obtain ⟨Ac, mc, cc, rfl, hmc⟩ := h_c.open_
  have Hmc := Lib.hid hmc
  clear hmc
  have B : Below w.heap.size w (w.alloc (.cells #[.slice Aa ma ca, .slice Ab mb cb, .slice Ac mc cc] 23)) := (Below.refl _ w).alloc (Nat.le_refl _) _
  have GV : Hid (Calls Try.prog 16 #[.slice (some ⟨w.heap.size, 0, none⟩) 3 3] (w.alloc (.cells #[.slice Aa ma ca, .slice Ab mb cb, .slice Ac mc cc] 23)) fun e w' => e = .returned (.bool true) ∧ (w.alloc (.cells #[.slice Aa ma ca, .slice Ab mb cb, .slice Ac mc cc] 23)) = w') := by
    have := given_any (some ⟨w.heap.size, 0, none⟩) 3 [(.slice Aa ma ca, limbs na), (.slice Ab mb cb, limbs nb), (.slice Ac mc cc, limbs nc)] (w.alloc (.cells #[.slice Aa ma ca, .slice Ab mb cb, .slice Ac mc cc] 23)) (by simpa using Reads.fresh w 23 [.slice Aa ma ca, .slice Ab mb cb, .slice Ac mc cc] 3 rfl) (by
      intro p hp
      simp only [List.mem_cons, List.not_mem_nil, or_false] at hp
      rcases hp with rfl | rfl | rfl
      · exact IsL.below h_a B
      · exact IsL.below h_b B
      · exact IsL.below h_c B) (by simp)
    have e : ([(.slice Aa ma ca, limbs na), (.slice Ab mb cb, limbs nb), (.slice Ac mc cc, limbs nc)] : List (Value × List Nat)).all (fun p => good p.2) = true := by
      simp only [List.all_cons, List.all_nil, Bool.and_true]
      simp [h_a.good sa, h_b.good sb, h_c.good sc]
    rw [e] at this
    exact this
  replace h_a := h_a.below B
  replace h_b := h_b.below B
  replace h_c := h_c.below B
  go_enter Try.func5, Try.ntmps5
  go_wp2_with fail
  refine GV.out.mono ?_
  rintro e w0 ⟨rfl, rfl⟩
  clear GV
  generalize w.alloc (.cells #[.slice Aa ma ca, .slice Ab mb cb, .slice Ac mc cc] 23) = w0 at *
  go_wp2_with fail
  refine (cmp_lt _ _ na nb _ h_a h_b hr).mono ?_
  rintro e w1 ⟨rfl, b1⟩
  replace h_a := h_a.below b1
  replace h_b := h_b.below b1
  replace h_c := h_c.below b1
  replace B := B.trans (b1.mono B.size)
  go_wp2_with fail
  refine (cmp_gt _ _ nb na _ h_b h_a hr).mono ?_
  rintro e w2 ⟨rfl, b2⟩
  replace h_a := h_a.below b2
  replace h_b := h_b.below b2
  replace h_c := h_c.below b2
  replace B := B.trans (b2.mono B.size)
  go_wp2_with fail
  refine (rsame_ne _ _ na nb _ h_a h_b (by omega)).mono ?_
  rintro e w3 ⟨rfl, n3, hn3⟩
  have b3 : Below w2.heap.size w2 w3 := by rw [hn3]; exact below_drewN (Below.refl _ _) n3
  clear hn3
  replace h_a := h_a.below b3
  replace h_b := h_b.below b3
  replace h_c := h_c.below b3
  replace B := B.trans (b3.mono B.size)
  by_cases hbc : nb ≤ nc
  · have hac : na ≤ nc := by omega
    have q1 : cmpI (nb : Int) (nc : Int) ≤ 0 := by unfold cmpI; split <;> (try split) <;> omega
    have q2 : cmpI (na : Int) (nc : Int) ≤ 0 := by unfold cmpI; split <;> (try split) <;> omega
    go_wp2_with fail
    refine (cmp_any _ _ nb nc _ h_b h_c).mono ?_
    rintro e w4 ⟨rfl, b4⟩
    replace h_a := h_a.below b4
    replace h_b := h_b.below b4
    replace h_c := h_c.below b4
    replace B := B.trans (b4.mono B.size)
    go_wp2_with fail
    refine (cmp_any _ _ na nc _ h_a h_c).mono ?_
    rintro e w5 ⟨rfl, b5⟩
    replace h_a := h_a.below b5
    replace h_b := h_b.below b5
    replace h_c := h_c.below b5
    replace B := B.trans (b5.mono B.size)
    go_wp2_with fail
    refine (alive01_any _).mono ?_
    rintro e w6 ⟨rfl, b6⟩
    replace h_a := h_a.below b6
    replace h_b := h_b.below b6
    replace h_c := h_c.below b6
    replace B := B.trans (b6.mono B.size)
    go_wp2_with fail
    refine (add_any _ _ (na) (nc) _ h_a h_c ((sa).fin (by omega)) ((sc).fin (by omega))).mono ?_
    rintro e w7 ⟨v_ac, rfl, h_ac, b7⟩
    replace h_a := h_a.below b7
    replace h_b := h_b.below b7
    replace h_c := h_c.below b7
    replace B := B.trans (b7.mono B.size)
    go_wp2_with fail
    refine (add_any _ _ (nb) (nc) _ h_b h_c ((sb).fin (by omega)) ((sc).fin (by omega))).mono ?_
    rintro e w8 ⟨v_bc, rfl, h_bc, b8⟩
    replace h_a := h_a.below b8
    replace h_b := h_b.below b8
    replace h_c := h_c.below b8
    replace h_ac := h_ac.below b8
    replace B := B.trans (b8.mono B.size)
    go_wp2_with fail
    refine (cmp_lt _ _ ((na + nc)) ((nb + nc)) _ h_ac h_bc (by omega)).mono ?_
    rintro e w9 ⟨rfl, b9⟩
    replace h_a := h_a.below b9
    replace h_b := h_b.below b9
    replace h_c := h_c.below b9
    replace h_ac := h_ac.below b9
    replace h_bc := h_bc.below b9
    replace B := B.trans (b9.mono B.size)
    by_cases hc0 : nc = 0
    · have : mc = 0 := by rw [Hmc.out, hc0, limbs_zero]; rfl
      clear hc0
      subst this
      go_wp2
      go_ret
      exact ⟨rfl, B⟩
    · have hm0 : mc ≠ 0 := by rw [Hmc.out]; intro e; exact hc0 (limbs_nil.1 (List.eq_nil_of_length_eq_zero e))
      have hm1 : ((mc : Int) == 0) = false := by rw [beq_eq_false_iff_ne]; omega
      have hcp : 0 < nc := by omega
      clear hc0 hm0
      go_wp2_with fail
      refine (mul_any _ _ (na) (nc) _ h_a h_c ((sa).fin (by omega)) ((sc).fin (by omega))).mono ?_
      rintro e w10 ⟨v_pa, rfl, h_pa, b10⟩
      replace h_a := h_a.below b10
      replace h_b := h_b.below b10
      replace h_c := h_c.below b10
      replace h_ac := h_ac.below b10
      replace h_bc := h_bc.below b10
      replace B := B.trans (b10.mono B.size)
      go_wp2_with fail
      refine (mul_any _ _ (nb) (nc) _ h_b h_c ((sb).fin (by omega)) ((sc).fin (by omega))).mono ?_
      rintro e w11 ⟨v_pb, rfl, h_pb, b11⟩
      replace h_a := h_a.below b11
      replace h_b := h_b.below b11
      replace h_c := h_c.below b11
      replace h_ac := h_ac.below b11
      replace h_bc := h_bc.below b11
      replace h_pa := h_pa.below b11
      replace B := B.trans (b11.mono B.size)
      go_wp2_with fail
      refine (cmp_lt _ _ ((na * nc)) ((nb * nc)) _ h_pa h_pb (Nat.mul_lt_mul_of_pos_right hr hcp)).mono ?_
      rintro e w12 ⟨rfl, b12⟩
      replace h_a := h_a.below b12
      replace h_b := h_b.below b12
      replace h_c := h_c.below b12
      replace h_ac := h_ac.below b12
      replace h_bc := h_bc.below b12
      replace h_pa := h_pa.below b12
      replace h_pb := h_pb.below b12
      replace B := B.trans (b12.mono B.size)
      go_wp2
      go_ret
      exact ⟨rfl, B⟩
  · go_wp2_with fail
    refine (cmp_gt _ _ nb nc _ h_b h_c (by omega)).mono ?_
    rintro e w4 ⟨rfl, b4⟩
    replace h_a := h_a.below b4
    replace h_b := h_b.below b4
    replace h_c := h_c.below b4
    replace B := B.trans (b4.mono B.size)
    go_wp2_with fail
    refine (alive01_any _).mono ?_
    rintro e w5 ⟨rfl, b5⟩
    replace h_a := h_a.below b5
    replace h_b := h_b.below b5
    replace h_c := h_c.below b5
    replace B := B.trans (b5.mono B.size)
    go_wp2_with fail
    refine (add_any _ _ (na) (nc) _ h_a h_c ((sa).fin (by omega)) ((sc).fin (by omega))).mono ?_
    rintro e w6 ⟨v_ac, rfl, h_ac, b6⟩
    replace h_a := h_a.below b6
    replace h_b := h_b.below b6
    replace h_c := h_c.below b6
    replace B := B.trans (b6.mono B.size)
    go_wp2_with fail
    refine (add_any _ _ (nb) (nc) _ h_b h_c ((sb).fin (by omega)) ((sc).fin (by omega))).mono ?_
    rintro e w7 ⟨v_bc, rfl, h_bc, b7⟩
    replace h_a := h_a.below b7
    replace h_b := h_b.below b7
    replace h_c := h_c.below b7
    replace h_ac := h_ac.below b7
    replace B := B.trans (b7.mono B.size)
    go_wp2_with fail
    refine (cmp_lt _ _ ((na + nc)) ((nb + nc)) _ h_ac h_bc (by omega)).mono ?_
    rintro e w8 ⟨rfl, b8⟩
    replace h_a := h_a.below b8
    replace h_b := h_b.below b8
    replace h_c := h_c.below b8
    replace h_ac := h_ac.below b8
    replace h_bc := h_bc.below b8
    replace B := B.trans (b8.mono B.size)
    by_cases hc0 : nc = 0
    · have : mc = 0 := by rw [Hmc.out, hc0, limbs_zero]; rfl
      clear hc0
      subst this
      go_wp2
      go_ret
      exact ⟨rfl, B⟩
    · have hm0 : mc ≠ 0 := by rw [Hmc.out]; intro e; exact hc0 (limbs_nil.1 (List.eq_nil_of_length_eq_zero e))
      have hm1 : ((mc : Int) == 0) = false := by rw [beq_eq_false_iff_ne]; omega
      have hcp : 0 < nc := by omega
      clear hc0 hm0
      go_wp2_with fail
      refine (mul_any _ _ (na) (nc) _ h_a h_c ((sa).fin (by omega)) ((sc).fin (by omega))).mono ?_
      rintro e w9 ⟨v_pa, rfl, h_pa, b9⟩
      replace h_a := h_a.below b9
      replace h_b := h_b.below b9
      replace h_c := h_c.below b9
      replace h_ac := h_ac.below b9
      replace h_bc := h_bc.below b9
      replace B := B.trans (b9.mono B.size)
      go_wp2_with fail
      refine (mul_any _ _ (nb) (nc) _ h_b h_c ((sb).fin (by omega)) ((sc).fin (by omega))).mono ?_
      rintro e w10 ⟨v_pb, rfl, h_pb, b10⟩
      replace h_a := h_a.below b10
      replace h_b := h_b.below b10
      replace h_c := h_c.below b10
      replace h_ac := h_ac.below b10
      replace h_bc := h_bc.below b10
      replace h_pa := h_pa.below b10
      replace B := B.trans (b10.mono B.size)
      go_wp2_with fail
      refine (cmp_lt _ _ ((na * nc)) ((nb * nc)) _ h_pa h_pb (Nat.mul_lt_mul_of_pos_right hr hcp)).mono ?_
      rintro e w11 ⟨rfl, b11⟩
      replace h_a := h_a.below b11
      replace h_b := h_b.below b11
      replace h_c := h_c.below b11
      replace h_ac := h_ac.below b11
      replace h_bc := h_bc.below b11
      replace h_pa := h_pa.below b11
      replace h_pb := h_pb.below b11
      replace B := B.trans (b11.mono B.size)
      go_wp2
      go_ret
      exact ⟨rfl, B⟩

set_option maxRecDepth 100000 in
set_option maxHeartbeats 4000000 in
theorem NatOrder_eq (va vb vc : Value) (na nb nc : Nat) (w : World) (h_a : IsN w va na) (h_b : IsN w vb nb) (h_c : IsN w vc nc) (sa : Sz na 20) (sb : Sz nb 20) (sc : Sz nc 20) (hr : na = nb) :
    Calls Try.prog 5 #[va, vb, vc] w fun e w' => e = .returned (.bool true) ∧ Below w.heap.size w w' := by
  obtain ⟨Aa, ma, ca, rfl⟩ := h_a.form
  obtain ⟨Ab, mb, cb, rfl⟩ := h_b.form
  obtain ⟨Ac, mc, cc, rfl, hmc⟩ := h_c.open_
  have Hmc := Lib.hid hmc
  clear hmc
  have B : Below w.heap.size w (w.alloc (.cells #[.slice Aa ma ca, .slice Ab mb cb, .slice Ac mc cc] 23)) := (Below.refl _ w).alloc (Nat.le_refl _) _
  have GV : Hid (Calls Try.prog 16 #[.slice (some ⟨w.heap.size, 0, none⟩) 3 3] (w.alloc (.cells #[.slice Aa ma ca, .slice Ab mb cb, .slice Ac mc cc] 23)) fun e w' => e = .returned (.bool true) ∧ (w.alloc (.cells #[.slice Aa ma ca, .slice Ab mb cb, .slice Ac mc cc] 23)) = w') := by
    have := given_any (some ⟨w.heap.size, 0, none⟩) 3 [(.slice Aa ma ca, limbs na), (.slice Ab mb cb, limbs nb), (.slice Ac mc cc, limbs nc)] (w.alloc (.cells #[.slice Aa ma ca, .slice Ab mb cb, .slice Ac mc cc] 23)) (by simpa using Reads.fresh w 23 [.slice Aa ma ca, .slice Ab mb cb, .slice Ac mc cc] 3 rfl) (by
      intro p hp
      simp only [List.mem_cons, List.not_mem_nil, or_false] at hp
      rcases hp with rfl | rfl | rfl
      · exact IsL.below h_a B
      · exact IsL.below h_b B
      · exact IsL.below h_c B) (by simp)
    have e : ([(.slice Aa ma ca, limbs na), (.slice Ab mb cb, limbs nb), (.slice Ac mc cc, limbs nc)] : List (Value × List Nat)).all (fun p => good p.2) = true := by
      simp only [List.all_cons, List.all_nil, Bool.and_true]
      simp [h_a.good sa, h_b.good sb, h_c.good sc]
    rw [e] at this
    exact this
  replace h_a := h_a.below B
  replace h_b := h_b.below B
  replace h_c := h_c.below B
  go_enter Try.func5, Try.ntmps5
  go_wp2_with fail
  refine GV.out.mono ?_
  rintro e w0 ⟨rfl, rfl⟩
  clear GV
  generalize w.alloc (.cells #[.slice Aa ma ca, .slice Ab mb cb, .slice Ac mc cc] 23) = w0 at *
  have Hr := Lib.hid hr
  clear hr
  go_wp2_with fail
  refine (cmp_eq _ _ na nb _ h_a h_b Hr.out).mono ?_
  rintro e w1 ⟨rfl, b1⟩
  replace h_a := h_a.below b1
  replace h_b := h_b.below b1
  replace h_c := h_c.below b1
  replace B := B.trans (b1.mono B.size)
  go_wp2_with fail
  refine (cmp_eq _ _ nb na _ h_b h_a Hr.out.symm).mono ?_
  rintro e w2 ⟨rfl, b2⟩
  replace h_a := h_a.below b2
  replace h_b := h_b.below b2
  replace h_c := h_c.below b2
  replace B := B.trans (b2.mono B.size)
  go_wp2_with fail
  refine (rsame_eq _ _ (na) (nb) _ h_a h_b (Hr.out)).mono ?_
  rintro e w3 ⟨rfl, n3, hn3⟩
  have b3 : Below w2.heap.size w2 w3 := by rw [hn3]; exact below_drewN (Below.refl _ _) n3
  clear hn3
  replace h_a := h_a.below b3
  replace h_b := h_b.below b3
  replace h_c := h_c.below b3
  replace B := B.trans (b3.mono B.size)
  by_cases hbc : nb ≤ nc
  · have hac : na ≤ nc := by rw [Hr.out]; exact hbc
    have q1 : cmpI (nb : Int) (nc : Int) ≤ 0 := by unfold cmpI; split <;> (try split) <;> omega
    have q2 : cmpI (na : Int) (nc : Int) ≤ 0 := by unfold cmpI; split <;> (try split) <;> omega
    go_wp2_with fail
    refine (cmp_any _ _ nb nc _ h_b h_c).mono ?_
    rintro e w4 ⟨rfl, b4⟩
    replace h_a := h_a.below b4
    replace h_b := h_b.below b4
    replace h_c := h_c.below b4
    replace B := B.trans (b4.mono B.size)
    go_wp2_with fail
    refine (cmp_any _ _ na nc _ h_a h_c).mono ?_
    rintro e w5 ⟨rfl, b5⟩
    replace h_a := h_a.below b5
    replace h_b := h_b.below b5
    replace h_c := h_c.below b5
    replace B := B.trans (b5.mono B.size)
    go_wp2_with fail
    refine (alive01_any _).mono ?_
    rintro e w6 ⟨rfl, b6⟩
    replace h_a := h_a.below b6
    replace h_b := h_b.below b6
    replace h_c := h_c.below b6
    replace B := B.trans (b6.mono B.size)
    go_wp2_with fail
    refine (add_any _ _ (na) (nc) _ h_a h_c ((sa).fin (by omega)) ((sc).fin (by omega))).mono ?_
    rintro e w7 ⟨v_ac, rfl, h_ac, b7⟩
    replace h_a := h_a.below b7
    replace h_b := h_b.below b7
    replace h_c := h_c.below b7
    replace B := B.trans (b7.mono B.size)
    go_wp2_with fail
    refine (add_any _ _ (nb) (nc) _ h_b h_c ((sb).fin (by omega)) ((sc).fin (by omega))).mono ?_
    rintro e w8 ⟨v_bc, rfl, h_bc, b8⟩
    replace h_a := h_a.below b8
    replace h_b := h_b.below b8
    replace h_c := h_c.below b8
    replace h_ac := h_ac.below b8
    replace B := B.trans (b8.mono B.size)
    go_wp2_with fail
    refine (cmp_eq _ _ ((na + nc)) ((nb + nc)) _ h_ac h_bc (by rw [Hr.out])).mono ?_
    rintro e w9 ⟨rfl, b9⟩
    replace h_a := h_a.below b9
    replace h_b := h_b.below b9
    replace h_c := h_c.below b9
    replace h_ac := h_ac.below b9
    replace h_bc := h_bc.below b9
    replace B := B.trans (b9.mono B.size)
    by_cases hc0 : nc = 0
    · have : mc = 0 := by rw [Hmc.out, hc0, limbs_zero]; rfl
      clear hc0
      subst this
      go_wp2
      go_ret
      exact ⟨rfl, B⟩
    · have hm0 : mc ≠ 0 := by rw [Hmc.out]; intro e; exact hc0 (limbs_nil.1 (List.eq_nil_of_length_eq_zero e))
      have hm1 : ((mc : Int) == 0) = false := by rw [beq_eq_false_iff_ne]; omega
      have hcp : 0 < nc := by omega
      clear hc0 hm0
      go_wp2_with fail
      refine (mul_any _ _ (na) (nc) _ h_a h_c ((sa).fin (by omega)) ((sc).fin (by omega))).mono ?_
      rintro e w10 ⟨v_pa, rfl, h_pa, b10⟩
      replace h_a := h_a.below b10
      replace h_b := h_b.below b10
      replace h_c := h_c.below b10
      replace h_ac := h_ac.below b10
      replace h_bc := h_bc.below b10
      replace B := B.trans (b10.mono B.size)
      go_wp2_with fail
      refine (mul_any _ _ (nb) (nc) _ h_b h_c ((sb).fin (by omega)) ((sc).fin (by omega))).mono ?_
      rintro e w11 ⟨v_pb, rfl, h_pb, b11⟩
      replace h_a := h_a.below b11
      replace h_b := h_b.below b11
      replace h_c := h_c.below b11
      replace h_ac := h_ac.below b11
      replace h_bc := h_bc.below b11
      replace h_pa := h_pa.below b11
      replace B := B.trans (b11.mono B.size)
      go_wp2_with fail
      refine (cmp_eq _ _ ((na * nc)) ((nb * nc)) _ h_pa h_pb (by rw [Hr.out])).mono ?_
      rintro e w12 ⟨rfl, b12⟩
      replace h_a := h_a.below b12
      replace h_b := h_b.below b12
      replace h_c := h_c.below b12
      replace h_ac := h_ac.below b12
      replace h_bc := h_bc.below b12
      replace h_pa := h_pa.below b12
      replace h_pb := h_pb.below b12
      replace B := B.trans (b12.mono B.size)
      go_wp2
      go_ret
      exact ⟨rfl, B⟩
  · go_wp2_with fail
    refine (cmp_gt _ _ nb nc _ h_b h_c (by omega)).mono ?_
    rintro e w4 ⟨rfl, b4⟩
    replace h_a := h_a.below b4
    replace h_b := h_b.below b4
    replace h_c := h_c.below b4
    replace B := B.trans (b4.mono B.size)
    go_wp2_with fail
    refine (alive01_any _).mono ?_
    rintro e w5 ⟨rfl, b5⟩
    replace h_a := h_a.below b5
    replace h_b := h_b.below b5
    replace h_c := h_c.below b5
    replace B := B.trans (b5.mono B.size)
    go_wp2_with fail
    refine (add_any _ _ (na) (nc) _ h_a h_c ((sa).fin (by omega)) ((sc).fin (by omega))).mono ?_
    rintro e w6 ⟨v_ac, rfl, h_ac, b6⟩
    replace h_a := h_a.below b6
    replace h_b := h_b.below b6
    replace h_c := h_c.below b6
    replace B := B.trans (b6.mono B.size)
    go_wp2_with fail
    refine (add_any _ _ (nb) (nc) _ h_b h_c ((sb).fin (by omega)) ((sc).fin (by omega))).mono ?_
    rintro e w7 ⟨v_bc, rfl, h_bc, b7⟩
    replace h_a := h_a.below b7
    replace h_b := h_b.below b7
    replace h_c := h_c.below b7
    replace h_ac := h_ac.below b7
    replace B := B.trans (b7.mono B.size)
    go_wp2_with fail
    refine (cmp_eq _ _ ((na + nc)) ((nb + nc)) _ h_ac h_bc (by rw [Hr.out])).mono ?_
    rintro e w8 ⟨rfl, b8⟩
    replace h_a := h_a.below b8
    replace h_b := h_b.below b8
    replace h_c := h_c.below b8
    replace h_ac := h_ac.below b8
    replace h_bc := h_bc.below b8
    replace B := B.trans (b8.mono B.size)
    by_cases hc0 : nc = 0
    · have : mc = 0 := by rw [Hmc.out, hc0, limbs_zero]; rfl
      clear hc0
      subst this
      go_wp2
      go_ret
      exact ⟨rfl, B⟩
    · have hm0 : mc ≠ 0 := by rw [Hmc.out]; intro e; exact hc0 (limbs_nil.1 (List.eq_nil_of_length_eq_zero e))
      have hm1 : ((mc : Int) == 0) = false := by rw [beq_eq_false_iff_ne]; omega
      have hcp : 0 < nc := by omega
      clear hc0 hm0
      go_wp2_with fail
      refine (mul_any _ _ (na) (nc) _ h_a h_c ((sa).fin (by omega)) ((sc).fin (by omega))).mono ?_
      rintro e w9 ⟨v_pa, rfl, h_pa, b9⟩
      replace h_a := h_a.below b9
      replace h_b := h_b.below b9
      replace h_c := h_c.below b9
      replace h_ac := h_ac.below b9
      replace h_bc := h_bc.below b9
      replace B := B.trans (b9.mono B.size)
      go_wp2_with fail
      refine (mul_any _ _ (nb) (nc) _ h_b h_c ((sb).fin (by omega)) ((sc).fin (by omega))).mono ?_
      rintro e w10 ⟨v_pb, rfl, h_pb, b10⟩
      replace h_a := h_a.below b10
      replace h_b := h_b.below b10
      replace h_c := h_c.below b10
      replace h_ac := h_ac.below b10
      replace h_bc := h_bc.below b10
      replace h_pa := h_pa.below b10
      replace B := B.trans (b10.mono B.size)
      go_wp2_with fail
      refine (cmp_eq _ _ ((na * nc)) ((nb * nc)) _ h_pa h_pb (by rw [Hr.out])).mono ?_
      rintro e w11 ⟨rfl, b11⟩
      replace h_a := h_a.below b11
      replace h_b := h_b.below b11
      replace h_c := h_c.below b11
      replace h_ac := h_ac.below b11
      replace h_bc := h_bc.below b11
      replace h_pa := h_pa.below b11
      replace h_pb := h_pb.below b11
      replace B := B.trans (b11.mono B.size)
      go_wp2
      go_ret
      exact ⟨rfl, B⟩

set_option maxRecDepth 100000 in
set_option maxHeartbeats 4000000 in
theorem NatOrder_gt (va vb vc : Value) (na nb nc : Nat) (w : World) (h_a : IsN w va na) (h_b : IsN w vb nb) (h_c : IsN w vc nc) (sa : Sz na 20) (sb : Sz nb 20) (sc : Sz nc 20) (hr : nb < na) :
    Calls Try.prog 5 #[va, vb, vc] w fun e w' => e = .returned (.bool true) ∧ Below w.heap.size w w' := by
  obtain ⟨Aa, ma, ca, rfl⟩ := h_a.form
  obtain ⟨Ab, mb, cb, rfl⟩ := h_b.form
  obtain ⟨Ac, mc, cc, rfl, hmc⟩ := h_c.open_
  have Hmc := Lib.hid hmc
  clear hmc
  have B : Below w.heap.size w (w.alloc (.cells #[.slice Aa ma ca, .slice Ab mb cb, .slice Ac mc cc] 23)) := (Below.refl _ w).alloc (Nat.le_refl _) _
  have GV : Hid (Calls Try.prog 16 #[.slice (some ⟨w.heap.size, 0, none⟩) 3 3] (w.alloc (.cells #[.slice Aa ma ca, .slice Ab mb cb, .slice Ac mc cc] 23)) fun e w' => e = .returned (.bool true) ∧ (w.alloc (.cells #[.slice Aa ma ca, .slice Ab mb cb, .slice Ac mc cc] 23)) = w') := by
    have := given_any (some ⟨w.heap.size, 0, none⟩) 3 [(.slice Aa ma ca, limbs na), (.slice Ab mb cb, limbs nb), (.slice Ac mc cc, limbs nc)] (w.alloc (.cells #[.slice Aa ma ca, .slice Ab mb cb, .slice Ac mc cc] 23)) (by simpa using Reads.fresh w 23 [.slice Aa ma ca, .slice Ab mb cb, .slice Ac mc cc] 3 rfl) (by
      intro p hp
      simp only [List.mem_cons, List.not_mem_nil, or_false] at hp
      rcases hp with rfl | rfl | rfl
      · exact IsL.below h_a B
      · exact IsL.below h_b B
      · exact IsL.below h_c B) (by simp)
    have e : ([(.slice Aa ma ca, limbs na), (.slice Ab mb cb, limbs nb), (.slice Ac mc cc, limbs nc)] : List (Value × List Nat)).all (fun p => good p.2) = true := by
      simp only [List.all_cons, List.all_nil, Bool.and_true]
      simp [h_a.good sa, h_b.good sb, h_c.good sc]
    rw [e] at this
    exact this
  replace h_a := h_a.below B
  replace h_b := h_b.below B
  replace h_c := h_c.below B
  go_enter Try.func5, Try.ntmps5
  go_wp2_with fail
  refine GV.out.mono ?_
  rintro e w0 ⟨rfl, rfl⟩
  clear GV
  generalize w.alloc (.cells #[.slice Aa ma ca, .slice Ab mb cb, .slice Ac mc cc] 23) = w0 at *
  go_wp2_with fail
  refine (cmp_gt _ _ na nb _ h_a h_b hr).mono ?_
  rintro e w1 ⟨rfl, b1⟩
  replace h_a := h_a.below b1
  replace h_b := h_b.below b1
  replace h_c := h_c.below b1
  replace B := B.trans (b1.mono B.size)
  go_wp2_with fail
  refine (cmp_lt _ _ nb na _ h_b h_a hr).mono ?_
  rintro e w2 ⟨rfl, b2⟩
  replace h_a := h_a.below b2
  replace h_b := h_b.below b2
  replace h_c := h_c.below b2
  replace B := B.trans (b2.mono B.size)
  go_wp2_with fail
  refine (rsame_ne _ _ na nb _ h_a h_b (by omega)).mono ?_
  rintro e w3 ⟨rfl, n3, hn3⟩
  have b3 : Below w2.heap.size w2 w3 := by rw [hn3]; exact below_drewN (Below.refl _ _) n3
  clear hn3
  replace h_a := h_a.below b3
  replace h_b := h_b.below b3
  replace h_c := h_c.below b3
  replace B := B.trans (b3.mono B.size)
  go_wp2_with fail
  refine (alive01_any _).mono ?_
  rintro e w4 ⟨rfl, b4⟩
  replace h_a := h_a.below b4
  replace h_b := h_b.below b4
  replace h_c := h_c.below b4
  replace B := B.trans (b4.mono B.size)
  go_wp2_with fail
  refine (add_any _ _ (na) (nc) _ h_a h_c ((sa).fin (by omega)) ((sc).fin (by omega))).mono ?_
  rintro e w5 ⟨v_ac, rfl, h_ac, b5⟩
  replace h_a := h_a.below b5
  replace h_b := h_b.below b5
  replace h_c := h_c.below b5
  replace B := B.trans (b5.mono B.size)
  go_wp2_with fail
  refine (add_any _ _ (nb) (nc) _ h_b h_c ((sb).fin (by omega)) ((sc).fin (by omega))).mono ?_
  rintro e w6 ⟨v_bc, rfl, h_bc, b6⟩
  replace h_a := h_a.below b6
  replace h_b := h_b.below b6
  replace h_c := h_c.below b6
  replace h_ac := h_ac.below b6
  replace B := B.trans (b6.mono B.size)
  go_wp2_with fail
  refine (cmp_gt _ _ ((na + nc)) ((nb + nc)) _ h_ac h_bc (by omega)).mono ?_
  rintro e w7 ⟨rfl, b7⟩
  replace h_a := h_a.below b7
  replace h_b := h_b.below b7
  replace h_c := h_c.below b7
  replace h_ac := h_ac.below b7
  replace h_bc := h_bc.below b7
  replace B := B.trans (b7.mono B.size)
  by_cases hc0 : nc = 0
  · have : mc = 0 := by rw [Hmc.out, hc0, limbs_zero]; rfl
    clear hc0
    subst this
    go_wp2
    go_ret
    exact ⟨rfl, B⟩
  · have hm0 : mc ≠ 0 := by rw [Hmc.out]; intro e; exact hc0 (limbs_nil.1 (List.eq_nil_of_length_eq_zero e))
    have hm1 : ((mc : Int) == 0) = false := by rw [beq_eq_false_iff_ne]; omega
    have hcp : 0 < nc := by omega
    clear hc0 hm0
    go_wp2_with fail
    refine (mul_any _ _ (na) (nc) _ h_a h_c ((sa).fin (by omega)) ((sc).fin (by omega))).mono ?_
    rintro e w8 ⟨v_pa, rfl, h_pa, b8⟩
    replace h_a := h_a.below b8
    replace h_b := h_b.below b8
    replace h_c := h_c.below b8
    replace h_ac := h_ac.below b8
    replace h_bc := h_bc.below b8
    replace B := B.trans (b8.mono B.size)
    go_wp2_with fail
    refine (mul_any _ _ (nb) (nc) _ h_b h_c ((sb).fin (by omega)) ((sc).fin (by omega))).mono ?_
    rintro e w9 ⟨v_pb, rfl, h_pb, b9⟩
    replace h_a := h_a.below b9
    replace h_b := h_b.below b9
    replace h_c := h_c.below b9
    replace h_ac := h_ac.below b9
    replace h_bc := h_bc.below b9
    replace h_pa := h_pa.below b9
    replace B := B.trans (b9.mono B.size)
    go_wp2_with fail
    refine (cmp_gt _ _ ((na * nc)) ((nb * nc)) _ h_pa h_pb (Nat.mul_lt_mul_of_pos_right hr hcp)).mono ?_
    rintro e w10 ⟨rfl, b10⟩
    replace h_a := h_a.below b10
    replace h_b := h_b.below b10
    replace h_c := h_c.below b10
    replace h_ac := h_ac.below b10
    replace h_bc := h_bc.below b10
    replace h_pa := h_pa.below b10
    replace h_pb := h_pb.below b10
    replace B := B.trans (b10.mono B.size)
    go_wp2
    go_ret
    exact ⟨rfl, B⟩

theorem NatOrder_good (va vb vc : Value) (na nb nc : Nat) (w : World) (h_a : IsN w va na) (h_b : IsN w vb nb) (h_c : IsN w vc nc) (sa : Sz na 20) (sb : Sz nb 20) (sc : Sz nc 20) :
    Calls Try.prog 5 #[va, vb, vc] w fun e w' => e = .returned (.bool true) ∧ Below w.heap.size w w' := by
  rcases Nat.lt_trichotomy na nb with h | h | h
  · exact NatOrder_lt va vb vc na nb nc w h_a h_b h_c sa sb sc h
  · exact NatOrder_eq va vb vc na nb nc w h_a h_b h_c sa sb sc h
  · exact NatOrder_gt va vb vc na nb nc w h_a h_b h_c sa sb sc h

theorem NatOrder_walk : LawWalk 5 Try.f5 := by
  intro W base args H enc ds p hval hA hlt _
  rw [show Try.f5.params.toList = [23, 23, 23] from rfl] at hA
  obtain ⟨va, vsa, da, dsa, pa, qa, hargs, rfl, rfl, ha, ra⟩ := trodAll_cons hA
  obtain ⟨vb, vsb, db, dsb, pb, qb, rfl, rfl, rfl, hb, rb⟩ := trodAll_cons ra
  obtain ⟨vc, vsc, dc, dsc, pc, qc, rfl, rfl, rfl, hc, rc⟩ := trodAll_cons rb
  obtain ⟨rfl, rfl, rfl⟩ := trodAll_nil rc
  obtain rfl : args = #[va, vb, vc] := by cases args; simp_all
  obtain ⟨la, ka⟩ := open_limbs Try.underlying23 (hval 0 23 va rfl rfl) ha (fun x hx => hlt x (by simp [hx]))
  obtain ⟨lb, kb⟩ := open_limbs Try.underlying23 (hval 1 23 vb rfl rfl) hb (fun x hx => hlt x (by simp [hx]))
  obtain ⟨lc, kc⟩ := open_limbs Try.underlying23 (hval 2 23 vc rfl rfl) hc (fun x hx => hlt x (by simp [hx]))
  by_cases hg : (good la && good lb && good lc) = true
  · have hg' := hg
    simp only [Bool.and_eq_true] at hg'
    obtain ⟨⟨ga, gb⟩, gc⟩ := hg'
    exact NatOrder_good _ _ _ _ _ _ W (ka.num_of ga).1 (kb.num_of gb).1 (kc.num_of gc).1 (ka.num_of ga).2 (kb.num_of gb).2 (kc.num_of gc).2
  · exact NatOrder_bad _ _ _ _ _ _ W ka kb kc (by simpa using hg)

set_option maxRecDepth 100000 in
/-- the given statement -/
theorem NatOrder_holds : Rows.NatOrderSaid :=
  OpenClaim.holds_of_wide 5 Try.f5 rfl rfl rfl rfl rfl rfl rfl ⟨rfl, rfl, rfl, rfl, rfl⟩ rfl rfl rfl rfl rfl (by kernel_rfl) Try.func5 (by kernel_rfl)
    (of_decide_eq_true (by kernel_rfl)) (by unfold Func.isWrapper; first | (rw [if_pos (by decide +kernel)]; kernel_rfl) | (rw [if_neg (by decide +kernel)]; exact ⟨rfl, rfl⟩))
    (fun os started H enc _ => law_lifted 5 Try.f5 Rows.natOrderSpec Rows.natOrderRow.domain rfl rfl rfl Try.func5 (by kernel_rfl) (by decide +kernel)
      (fun H ds h => by
        have h' : ds.length = 3 := h
        match ds, h' with
        | [_, _, _], _ => exact ⟨rfl, rfl, rfl⟩)
      (fun os _ H enc => ChangeSpec.witness6 (enc := enc) (C := Try.checked) false ⟨#[], #[.slice none 0 0, .slice none 0 0, .slice none 0 0], []⟩ 8 (by kernel_rfl) (by kernel_rfl) (by kernel_rfl) (by kernel_rfl))
      NatOrder_walk os started H enc)
end Go.Proofs.Ytegfgjapmnokjaa
