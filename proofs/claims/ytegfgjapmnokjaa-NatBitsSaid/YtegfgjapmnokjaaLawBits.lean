/- How many binary figures numbers, sums and products have, in layer 1. No condition. -/
import Derived.Test.YtegfgjapmnokjaaNatBl
import Derived.Test.YtegfgjapmnokjaaOpen
namespace Go.Proofs.Ytegfgjapmnokjaa
open Go.ChangeShapes Go.WideShapes Go.ChangeAt Go.RowKit

set_option maxHeartbeats 1000000 in
theorem NatBits_bad (va vb : Value) (la lb : List Nat) (w : World) (h_a : IsL w va la) (h_b : IsL w vb lb) (hg : (good la && good lb) = false) :
    Calls Try.prog 6 #[va, vb] w fun e w' => e = .returned (.bool true) ∧ Below w.heap.size w w' := by
  obtain ⟨Aa, ma, ca, rfl⟩ := h_a.form
  obtain ⟨Ab, mb, cb, rfl⟩ := h_b.form
  have B : Below w.heap.size w (w.alloc (.cells #[.slice Aa ma ca, .slice Ab mb cb] 23)) := (Below.refl _ w).alloc (Nat.le_refl _) _
  have GV : Hid (Calls Try.prog 16 #[.slice (some ⟨w.heap.size, 0, none⟩) 2 2] (w.alloc (.cells #[.slice Aa ma ca, .slice Ab mb cb] 23)) fun e w' => e = .returned (.bool false) ∧ (w.alloc (.cells #[.slice Aa ma ca, .slice Ab mb cb] 23)) = w') := by
    have := given_any (some ⟨w.heap.size, 0, none⟩) 2 [(.slice Aa ma ca, la), (.slice Ab mb cb, lb)] (w.alloc (.cells #[.slice Aa ma ca, .slice Ab mb cb] 23)) (by simpa using Reads.fresh w 23 [.slice Aa ma ca, .slice Ab mb cb] 2 rfl) (by
      intro p hp
      simp only [List.mem_cons, List.not_mem_nil, or_false] at hp
      rcases hp with rfl | rfl
      · exact IsL.below h_a B
      · exact IsL.below h_b B) (by simp)
    have e : ([(.slice Aa ma ca, la), (.slice Ab mb cb, lb)] : List (Value × List Nat)).all (fun p => good p.2) = false := by
      simp only [List.all_cons, List.all_nil, Bool.and_true]
      exact hg
    rw [e] at this
    exact this
  go_enter Try.func6, Try.ntmps6
  go_wp2_with fail
  refine GV.out.mono ?_
  rintro e w0 ⟨rfl, rfl⟩
  go_wp2_with fail
  refine (alive01_any _).mono ?_
  rintro e w1 ⟨rfl, b1⟩
  go_wp2
  go_ret
  exact ⟨rfl, B.trans (b1.mono B.size)⟩

set_option maxRecDepth 100000 in
set_option maxHeartbeats 2000000 in
theorem NatBits_l (va vb : Value) (na nb : Nat) (w : World) (h_a : IsN w va na) (h_b : IsN w vb nb) (sa : Sz na 20) (sb : Sz nb 20) (hz : na = 0) :
    Calls Try.prog 6 #[va, vb] w fun e w' => e = .returned (.bool true) ∧ Below w.heap.size w w' := by
  obtain ⟨Aa, ma, ca, rfl, hma⟩ := h_a.open_
  obtain ⟨Ab, mb, cb, rfl⟩ := h_b.form
  have GV := Lib.hid (given2 _ _ na nb w h_a h_b sa sb ⟨_, _, _, _, _, _, rfl, rfl⟩)
  have l1 := bl_limbs na
  rw [← hma] at l1
  have l2 := bl_add_lo na nb
  have l3 := bl_add_hi na nb
  have ma20 : ma ≤ 20 := by rw [hma]; exact sa
  have hm0 : ma = 0 := by rw [hma, hz, limbs_zero]; rfl
  obtain ⟨N, hN⟩ : ∃ N, bl na = N := ⟨_, rfl⟩
  obtain ⟨M, hM⟩ : ∃ M, bl nb = M := ⟨_, rfl⟩
  obtain ⟨S, hS⟩ : ∃ S, bl (na + nb) = S := ⟨_, rfl⟩
  rw [hN] at l1 l2 l3
  rw [hM, hS] at l2 l3
  have hmax := fun t y W => run_max_nat (P := Try.prog) t y W N M
  obtain ⟨X, hX⟩ : ∃ X, X = max N M := ⟨_, rfl⟩
  have x1 : N ≤ X := by omega
  have x2 : M ≤ X := by omega
  have x4 : X ≤ N + M := by omega
  rw [← hX] at hmax l2 l3
  have l4 := bl_limbs nb
  rw [hM] at l4
  have x3 : M ≤ 1280 := by have : (limbs nb).length ≤ 20 := sb; omega
  clear l4
  have HN := Lib.hid hN
  have HM := Lib.hid hM
  have HS := Lib.hid hS
  clear hX
  have hN0 : N = 0 := by rw [← hN, hz, bl_zero]
  clear hN hM hS hz hma
  subst hm0
  subst hN0
  rw [show ((0 : Nat) : Int) = 0 from rfl] at hmax
  go_enter Try.func6, Try.ntmps6
  go_wp2_with fail
  refine GV.out.mono ?_
  rintro e w0 ⟨rfl, B⟩
  clear GV
  replace h_a := h_a.below B
  replace h_b := h_b.below B
  go_wp2_with fail
  refine (bits_to _ na 0 _ h_a (sa.fin (by omega)) HN.out).mono ?_
  rintro e w1 ⟨rfl, rfl⟩
  go_wp2_with fail
  refine (bits_to _ nb M _ h_b (sb.fin (by omega)) HM.out).mono ?_
  rintro e w2 ⟨rfl, rfl⟩
  go_wp2_with fail
  refine (add_any _ _ (na) (nb) _ h_a h_b ((sa).fin (by omega)) ((sb).fin (by omega))).mono ?_
  rintro e w3 ⟨v_ab, rfl, h_ab, b3⟩
  replace h_a := h_a.below b3
  replace h_b := h_b.below b3
  replace B := B.trans (b3.mono B.size)
  go_wp2_with fail
  refine (bits_to _ (na + nb) S _ h_ab ((Sz.add sa sb).fin (by omega)) HS.out).mono ?_
  rintro e w4 ⟨rfl, rfl⟩
  go_wp2_with fail
  refine (alive01_any _).mono ?_
  rintro e w5 ⟨rfl, b5⟩
  replace h_a := h_a.below b5
  replace h_b := h_b.below b5
  replace h_ab := h_ab.below b5
  replace B := B.trans (b5.mono B.size)
  go_wp2
  go_ret
  exact ⟨rfl, B⟩

set_option maxRecDepth 100000 in
set_option maxHeartbeats 2000000 in
theorem NatBits_r (va vb : Value) (na nb : Nat) (w : World) (h_a : IsN w va na) (h_b : IsN w vb nb) (sa : Sz na 20) (sb : Sz nb 20) (hz : na ≠ 0) (hy : nb = 0) :
    Calls Try.prog 6 #[va, vb] w fun e w' => e = .returned (.bool true) ∧ Below w.heap.size w w' := by
  obtain ⟨Aa, ma, ca, rfl, hma⟩ := h_a.open_
  obtain ⟨Ab, mb, cb, rfl⟩ := h_b.form
  have GV := Lib.hid (given2 _ _ na nb w h_a h_b sa sb ⟨_, _, _, _, _, _, rfl, rfl⟩)
  have l1 := bl_limbs na
  rw [← hma] at l1
  have l2 := bl_add_lo na nb
  have l3 := bl_add_hi na nb
  have ma20 : ma ≤ 20 := by rw [hma]; exact sa
  have hm0 : ma ≠ 0 := by rw [hma]; intro e; exact hz (limbs_nil.1 (List.eq_nil_of_length_eq_zero e))
  have hm1 : ((ma : Int) == 0) = false := by rw [beq_eq_false_iff_ne]; omega
  obtain ⟨N, hN⟩ : ∃ N, bl na = N := ⟨_, rfl⟩
  obtain ⟨M, hM⟩ : ∃ M, bl nb = M := ⟨_, rfl⟩
  obtain ⟨S, hS⟩ : ∃ S, bl (na + nb) = S := ⟨_, rfl⟩
  rw [hN] at l1 l2 l3
  rw [hM, hS] at l2 l3
  have hmax := fun t y W => run_max_nat (P := Try.prog) t y W N M
  obtain ⟨X, hX⟩ : ∃ X, X = max N M := ⟨_, rfl⟩
  have x1 : N ≤ X := by omega
  have x2 : M ≤ X := by omega
  have x4 : X ≤ N + M := by omega
  rw [← hX] at hmax l2 l3
  have l4 := bl_limbs nb
  rw [hM] at l4
  have x3 : M ≤ 1280 := by have : (limbs nb).length ≤ 20 := sb; omega
  clear l4
  have HN := Lib.hid hN
  have HM := Lib.hid hM
  have HS := Lib.hid hS
  clear hX
  have hN0 : N ≠ 0 := by rw [← hN]; intro e; exact hz (bl_eq_zero.1 e)
  have hN1 : ((N : Int) == 0) = false := by rw [beq_eq_false_iff_ne]; omega
  have hM0 : M = 0 := by rw [← hM, hy, bl_zero]
  clear hN hM hS hz hy hma hm0 hN0
  subst hM0
  rw [show ((0 : Nat) : Int) = 0 from rfl] at hmax
  go_enter Try.func6, Try.ntmps6
  go_wp2_with fail
  refine GV.out.mono ?_
  rintro e w0 ⟨rfl, B⟩
  clear GV
  replace h_a := h_a.below B
  replace h_b := h_b.below B
  go_wp2_with fail
  refine (bits_to _ na N _ h_a (sa.fin (by omega)) HN.out).mono ?_
  rintro e w1 ⟨rfl, rfl⟩
  go_wp2_with fail
  refine (bits_to _ nb 0 _ h_b (sb.fin (by omega)) HM.out).mono ?_
  rintro e w2 ⟨rfl, rfl⟩
  go_wp2_with fail
  refine (add_any _ _ (na) (nb) _ h_a h_b ((sa).fin (by omega)) ((sb).fin (by omega))).mono ?_
  rintro e w3 ⟨v_ab, rfl, h_ab, b3⟩
  replace h_a := h_a.below b3
  replace h_b := h_b.below b3
  replace B := B.trans (b3.mono B.size)
  go_wp2_with fail
  refine (bits_to _ (na + nb) S _ h_ab ((Sz.add sa sb).fin (by omega)) HS.out).mono ?_
  rintro e w4 ⟨rfl, rfl⟩
  go_wp2_with fail
  refine (alive01_any _).mono ?_
  rintro e w5 ⟨rfl, b5⟩
  replace h_a := h_a.below b5
  replace h_b := h_b.below b5
  replace h_ab := h_ab.below b5
  replace B := B.trans (b5.mono B.size)
  go_wp2
  go_ret
  exact ⟨rfl, B⟩

set_option maxRecDepth 100000 in
set_option maxHeartbeats 2000000 in
theorem NatBits_b (va vb : Value) (na nb : Nat) (w : World) (h_a : IsN w va na) (h_b : IsN w vb nb) (sa : Sz na 20) (sb : Sz nb 20) (hz : na ≠ 0) (hy : nb ≠ 0) :
    Calls Try.prog 6 #[va, vb] w fun e w' => e = .returned (.bool true) ∧ Below w.heap.size w w' := by
  obtain ⟨Aa, ma, ca, rfl, hma⟩ := h_a.open_
  obtain ⟨Ab, mb, cb, rfl⟩ := h_b.form
  have GV := Lib.hid (given2 _ _ na nb w h_a h_b sa sb ⟨_, _, _, _, _, _, rfl, rfl⟩)
  have l1 := bl_limbs na
  rw [← hma] at l1
  have l2 := bl_add_lo na nb
  have l3 := bl_add_hi na nb
  have ma20 : ma ≤ 20 := by rw [hma]; exact sa
  have hm0 : ma ≠ 0 := by rw [hma]; intro e; exact hz (limbs_nil.1 (List.eq_nil_of_length_eq_zero e))
  have hm1 : ((ma : Int) == 0) = false := by rw [beq_eq_false_iff_ne]; omega
  have hbm := bl_mul hz hy
  have hnum := bl_num (limbs_bd na) (limbs_rt na) (fun e => hz (limbs_nil.1 e))
  rw [num_limbs, ← hma] at hnum
  obtain ⟨N, hN⟩ : ∃ N, bl na = N := ⟨_, rfl⟩
  obtain ⟨M, hM⟩ : ∃ M, bl nb = M := ⟨_, rfl⟩
  obtain ⟨S, hS⟩ : ∃ S, bl (na + nb) = S := ⟨_, rfl⟩
  rw [hN] at l1 l2 l3
  rw [hM, hS] at l2 l3
  have hmax := fun t y W => run_max_nat (P := Try.prog) t y W N M
  obtain ⟨X, hX⟩ : ∃ X, X = max N M := ⟨_, rfl⟩
  have x1 : N ≤ X := by omega
  have x2 : M ≤ X := by omega
  have x4 : X ≤ N + M := by omega
  rw [← hX] at hmax l2 l3
  have l4 := bl_limbs nb
  rw [hM] at l4
  have x3 : M ≤ 1280 := by have : (limbs nb).length ≤ 20 := sb; omega
  clear l4
  have HN := Lib.hid hN
  have HM := Lib.hid hM
  have HS := Lib.hid hS
  clear hX
  have hN0 : N ≠ 0 := by rw [← hN]; intro e; exact hz (bl_eq_zero.1 e)
  have hN1 : ((N : Int) == 0) = false := by rw [beq_eq_false_iff_ne]; omega
  have hM0 : M ≠ 0 := by rw [← hM]; intro e; exact hy (bl_eq_zero.1 e)
  have hM1 : ((M : Int) == 0) = false := by rw [beq_eq_false_iff_ne]; omega
  obtain ⟨Q, hQ⟩ : ∃ Q, bl (na * nb) = Q := ⟨_, rfl⟩
  rw [hQ, hN, hM] at hbm
  rw [hN] at hnum
  have Hbm := Lib.hid hbm
  have HQ := Lib.hid hQ
  have Hma := Lib.hid hma
  obtain ⟨T, hT⟩ : ∃ T, T = lat (limbs na) (ma - 1) := ⟨_, rfl⟩
  have hT64 : T < W64 := by rw [hT]; exact (limbs_bd na).lat _
  rw [← hT] at hnum
  have HT := Lib.hid hT
  have hTb : (T : Int) ≤ 18446744073709551615 := by unfold W64 at hT64; omega
  have hT0 : bl T ≠ 0 := by
    rw [Ne, bl_eq_zero, hT, hma]
    rcases limbs_rt na with h | h
    · exact absurd (limbs_nil.1 h) hz
    · exact h
  have ma1 : 1 ≤ ma := by omega
  have n1 : 64 * (ma - 1) + bl T ≤ N := by omega
  have n2 : N ≤ 64 * (ma - 1) + bl T := by omega
  have n3 : 1 ≤ N := by omega
  have n4 : 1 ≤ M := by omega
  have nt : 1 ≤ bl T := by omega
  clear hN hM hS hz hy hma hm0 hN0 hbm hQ hT hnum hM0 hT0 hT64
  go_enter Try.func6, Try.ntmps6
  go_wp2_with fail
  refine GV.out.mono ?_
  rintro e w0 ⟨rfl, B⟩
  clear GV
  replace h_a := h_a.below B
  replace h_b := h_b.below B
  go_wp2_with fail
  refine (bits_to _ na N _ h_a (sa.fin (by omega)) HN.out).mono ?_
  rintro e w1 ⟨rfl, rfl⟩
  go_wp2_with fail
  refine (bits_to _ nb M _ h_b (sb.fin (by omega)) HM.out).mono ?_
  rintro e w2 ⟨rfl, rfl⟩
  go_wp2_with fail
  refine (add_any _ _ (na) (nb) _ h_a h_b ((sa).fin (by omega)) ((sb).fin (by omega))).mono ?_
  rintro e w3 ⟨v_ab, rfl, h_ab, b3⟩
  replace h_a := h_a.below b3
  replace h_b := h_b.below b3
  replace B := B.trans (b3.mono B.size)
  go_wp2_with fail
  refine (bits_to _ (na + nb) S _ h_ab ((Sz.add sa sb).fin (by omega)) HS.out).mono ?_
  rintro e w4 ⟨rfl, rfl⟩
  go_wp2_with fail
  refine (mul_any _ _ (na) (nb) _ h_a h_b ((sa).fin (by omega)) ((sb).fin (by omega))).mono ?_
  rintro e w5 ⟨v_p, rfl, h_p, b5⟩
  replace h_a := h_a.below b5
  replace h_b := h_b.below b5
  replace h_ab := h_ab.below b5
  replace B := B.trans (b5.mono B.size)
  go_wp2_with fail
  refine (bits_to _ (na * nb) Q _ h_p ((Sz.mul sa sb).fin (by omega)) HQ.out).mono ?_
  rintro e w6 ⟨rfl, rfl⟩
  obtain ⟨A', c', e', hc1, hc2, hbd, hrd⟩ := h_a
  rw [← Hma.out] at e' hrd
  obtain ⟨rfl, _, rfl⟩ := Value.slice.inj e'
  obtain ⟨ad, rfl, _, hx⟩ := us_cell hrd (k := ma - 1) (by omega)
  rw [← HT.out] at hx
  clear e' hc1 hc2 hrd
  have P0 : Hid (Below w.heap.size w w5) := B
  go_wp2
  go_loop [9, 10] (fun t i => ∃ k x : Nat, i = .int .i64 (64 * ((ma : Int) - 1) + (k : Int)) ∧ t = .int .u64 (x : Int) ∧ (x : Int) ≤ 18446744073709551615 ∧ Hid (k + bl x = bl T) ∧ k + bl x ≤ bl T ∧ bl T ≤ k + bl x ∧ 1 ≤ x) (fun _ i => (64 * (ma : Int) + (bl T : Int) - intOf i).toNat)
  case atStart => exact ⟨0, T, by simp, rfl, hTb, Lib.hid (by omega), by omega, by omega, one_of_bl nt⟩
  case round =>
    obtain ⟨k, x, rfl, rfl, hxb, hkx, hk1, hk2, hx1⟩ := hrel
    have hxl : 2 ≤ x → k + 1 + bl (x / 2) = bl T := fun h => by have h1 := hkx.out; have h2 := bl_pos (n := x) (by omega); omega
    by_cases h2 : 2 ≤ x
    · have e1 := hxl h2
      have h3 : 1 ≤ bl (x / 2) := one_bl (by omega)
      have h4 := bl_pos (n := x) (by omega)
      have lt1 : 64 * ((ma : Int) - 1) + (k : Int) < (N : Int) - 1 := by omega
      have E1 := Lib.hid e1
      have j1 : k + 1 + bl (x / 2) ≤ bl T := by omega
      have j2 : bl T ≤ k + 1 + bl (x / 2) := by omega
      clear hxl e1 h4
      go_wp2
      go_round
      case rel => exact ⟨k + 1, x / 2, by go_num, by go_num, by omega, E1, j1, j2, by omega⟩
      case measure => simp [intOf]; omega
    · obtain rfl : x = 1 := by omega
      have b1 : bl 1 = 1 := rfl
      have ge1 : (N : Int) - 1 ≤ 64 * ((ma : Int) - 1) + (k : Int) := by rw [b1] at hk1 hk2; omega
      clear hxl b1 hk1 hk2 hkx
      rcases Hbm.out with h | h
      · have q1 : ((Q : Int) == (N : Int) + (M : Int)) = true := by rw [beq_iff_eq]; omega
        clear h
        go_wp2_with fail
        refine (alive01_any _).mono ?_
        rintro e u ⟨rfl, hu⟩
        go_wp2
        go_ret
        exact ⟨rfl, P0.out.trans (hu.mono P0.out.size)⟩
      · have q1 : ((Q : Int) == (N : Int) + (M : Int)) = false := by rw [beq_eq_false_iff_ne]; omega
        have q2 : ((Q : Int) == (N : Int) + (M : Int) - 1) = true := by rw [beq_iff_eq]; omega
        clear h
        go_wp2_with fail
        refine (alive01_any _).mono ?_
        rintro e u ⟨rfl, hu⟩
        go_wp2
        go_ret
        exact ⟨rfl, P0.out.trans (hu.mono P0.out.size)⟩

theorem NatBits_good (va vb : Value) (na nb : Nat) (w : World) (h_a : IsN w va na) (h_b : IsN w vb nb) (sa : Sz na 20) (sb : Sz nb 20) :
    Calls Try.prog 6 #[va, vb] w fun e w' => e = .returned (.bool true) ∧ Below w.heap.size w w' := by
  by_cases h1 : na = 0
  · exact NatBits_l va vb na nb w h_a h_b sa sb h1
  · by_cases h2 : nb = 0
    · exact NatBits_r va vb na nb w h_a h_b sa sb h1 h2
    · exact NatBits_b va vb na nb w h_a h_b sa sb h1 h2

theorem NatBits_walk : LawWalk 6 Try.f6 := by
  intro W base args H enc ds p hval hA hlt _
  rw [show Try.f6.params.toList = [23, 23] from rfl] at hA
  obtain ⟨va, vsa, da, dsa, pa, qa, hargs, rfl, rfl, ha, ra⟩ := trodAll_cons hA
  obtain ⟨vb, vsb, db, dsb, pb, qb, rfl, rfl, rfl, hb, rb⟩ := trodAll_cons ra
  obtain ⟨rfl, rfl, rfl⟩ := trodAll_nil rb
  obtain rfl : args = #[va, vb] := by cases args; simp_all
  obtain ⟨la, ka⟩ := open_limbs Try.underlying23 (hval 0 23 va rfl rfl) ha (fun x hx => hlt x (by simp [hx]))
  obtain ⟨lb, kb⟩ := open_limbs Try.underlying23 (hval 1 23 vb rfl rfl) hb (fun x hx => hlt x (by simp [hx]))
  by_cases hg : (good la && good lb) = true
  · have hg' := hg
    simp only [Bool.and_eq_true] at hg'
    obtain ⟨ga, gb⟩ := hg'
    exact NatBits_good _ _ _ _ W (ka.num_of ga).1 (kb.num_of gb).1 (ka.num_of ga).2 (kb.num_of gb).2
  · exact NatBits_bad _ _ _ _ W ka kb (by simpa using hg)

set_option maxRecDepth 100000 in
/-- the given statement -/
theorem NatBits_holds : Rows.NatBitsSaid :=
  OpenClaim.holds_of_wide 6 Try.f6 rfl rfl rfl rfl rfl rfl rfl ⟨rfl, rfl, rfl, rfl, rfl⟩ rfl rfl rfl rfl rfl (by kernel_rfl) Try.func6 (by kernel_rfl)
    (of_decide_eq_true (by kernel_rfl)) (by unfold Func.isWrapper; first | (rw [if_pos (by decide +kernel)]; kernel_rfl) | (rw [if_neg (by decide +kernel)]; exact ⟨rfl, rfl⟩))
    (fun os started H enc _ => law_lifted 6 Try.f6 Rows.natBitsSpec Rows.natBitsRow.domain rfl rfl rfl Try.func6 (by kernel_rfl) (by decide +kernel)
      (fun H ds h => by
        have h' : ds.length = 2 := h
        match ds, h' with
        | [_, _], _ => exact ⟨rfl, rfl, rfl⟩)
      (fun os _ H enc => ChangeSpec.witness6 (enc := enc) (C := Try.checked) false ⟨#[], #[.slice none 0 0, .slice none 0 0], []⟩ 8 (by kernel_rfl) (by kernel_rfl) (by kernel_rfl) (by kernel_rfl))
      NatBits_walk os started H enc)
end Go.Proofs.Ytegfgjapmnokjaa
