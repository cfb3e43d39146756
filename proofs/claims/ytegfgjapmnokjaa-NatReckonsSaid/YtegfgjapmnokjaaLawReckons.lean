/- Sums, differences and products of layer 1 are as the reference has them. No condition. -/
import Derived.Test.YtegfgjapmnokjaaNatAid
import Derived.Test.YtegfgjapmnokjaaOpen
namespace Go.Proofs.Ytegfgjapmnokjaa
open Go.ChangeShapes Go.WideShapes Go.ChangeAt Go.RowKit

set_option maxHeartbeats 1000000 in
theorem NatReckons_bad (va vb : Value) (la lb : List Nat) (w : World) (h_a : IsL w va la) (h_b : IsL w vb lb) (hg : (good la && good lb) = false) :
    Calls Try.prog 7 #[va, vb] w fun e w' => e = .returned (.bool true) ∧ Below w.heap.size w w' := by
  obtain ⟨Aa, ma, ca, rfl⟩ := h_a.form
  obtain ⟨Ab, mb, cb, rfl⟩ := h_b.form
  have B : Below w.heap.size w (w.alloc (.cells #[.slice Aa ma ca, .slice Ab mb cb] 23)) := (Below.refl _ w).alloc (Nat.le_refl _) _
  have GV : Hid (Calls Try.prog 16 #[.slice (some ⟨w.heap.size, 0, none⟩) 2 2] (w.alloc (.cells #[.slice Aa ma ca, .slice Ab mb cb] 23)) fun e w' => e = .returned (.bool false) ∧ (w.alloc (.cells #[.slice Aa ma ca, .slice Ab mb cb] 23)) = w') := by
    have := given_any (some ⟨w.heap.size, 0, none⟩) 2 [(.slice Aa ma ca, la), (.slice Ab mb cb, lb)] (w.alloc (.cells #[.slice Aa ma ca, .slice Ab mb cb] 23)) (by simpa using Reads.fresh w 23 [.slice Aa ma ca, .slice Ab mb cb] 2 rfl) (by
      intro p hp
      simp only [List.mem_cons, List.not_mem_nil, or_false] at hp
      rcases hp with rfl | rfl
      · exact IsL.below h_a B
      · exact IsL.below h_b B) (by simp)
    have e : ([(.slice Aa ma ca, la), (.slice Ab mb cb, lb)] : List (Value × List Nat)).all (fun p => good p.2) = false := by
      simp only [List.all_cons, List.all_nil, Bool.and_true]
      exact hg
    rw [e] at this
    exact this
  go_enter Try.func7, Try.ntmps7
  go_wp2_with fail
  refine GV.out.mono ?_
  rintro e w0 ⟨rfl, rfl⟩
  go_wp2_with fail
  refine (alive01_any _).mono ?_
  rintro e w1 ⟨rfl, b1⟩
  go_wp2
  go_ret
  exact ⟨rfl, B.trans (b1.mono B.size)⟩

set_option maxRecDepth 100000 in
set_option maxHeartbeats 4000000 in
theorem NatReckons_good (va vb : Value) (na nb : Nat) (w : World) (h_a : IsN w va na) (h_b : IsN w vb nb) (sa : Sz na 20) (sb : Sz nb 20) :
    Calls Try.prog 7 #[va, vb] w fun e w' => e = .returned (.bool true) ∧ Below w.heap.size w w' := by
  obtain ⟨Aa, ma, ca, rfl⟩ := h_a.form
  obtain ⟨Ab, mb, cb, rfl⟩ := h_b.form
  have B : Below w.heap.size w (w.alloc (.cells #[.slice Aa ma ca, .slice Ab mb cb] 23)) := (Below.refl _ w).alloc (Nat.le_refl _) _
  have GV : Hid (Calls Try.prog 16 #[.slice (some ⟨w.heap.size, 0, none⟩) 2 2] (w.alloc (.cells #[.slice Aa ma ca, .slice Ab mb cb] 23)) fun e w' => e = .returned (.bool true) ∧ (w.alloc (.cells #[.slice Aa ma ca, .slice Ab mb cb] 23)) = w') := by
    have := given_any (some ⟨w.heap.size, 0, none⟩) 2 [(.slice Aa ma ca, limbs na), (.slice Ab mb cb, limbs nb)] (w.alloc (.cells #[.slice Aa ma ca, .slice Ab mb cb] 23)) (by simpa using Reads.fresh w 23 [.slice Aa ma ca, .slice Ab mb cb] 2 rfl) (by
      intro p hp
      simp only [List.mem_cons, List.not_mem_nil, or_false] at hp
      rcases hp with rfl | rfl
      · exact IsL.below h_a B
      · exact IsL.below h_b B) (by simp)
    have e : ([(.slice Aa ma ca, limbs na), (.slice Ab mb cb, limbs nb)] : List (Value × List Nat)).all (fun p => good p.2) = true := by
      simp only [List.all_cons, List.all_nil, Bool.and_true]
      simp [h_a.good sa, h_b.good sb]
    rw [e] at this
    exact this
  replace h_a := h_a.below B
  replace h_b := h_b.below B
  go_enter Try.func7, Try.ntmps7
  go_wp2_with fail
  refine GV.out.mono ?_
  rintro e w0 ⟨rfl, rfl⟩
  clear GV
  generalize w.alloc (.cells #[.slice Aa ma ca, .slice Ab mb cb] 23) = w0 at *
  by_cases hlt : na < nb
  · go_wp2_with fail
    refine (sub_less _ _ na nb _ h_a h_b hlt).mono ?_
    rintro e w1 ⟨rfl, b1⟩
    replace h_a := h_a.below b1
    replace h_b := h_b.below b1
    replace B := B.trans (b1.mono B.size)
    go_wp2_with fail
    refine (rsub_less _ _ na nb _ h_a h_b hlt).mono ?_
    rintro e w2 ⟨rfl, b2⟩
    replace h_a := h_a.below b2
    replace h_b := h_b.below b2
    replace B := B.trans (b2.mono B.size)
    go_wp2_with fail
    refine (alive01_any _).mono ?_
    rintro e w3 ⟨rfl, b3⟩
    replace h_a := h_a.below b3
    replace h_b := h_b.below b3
    replace B := B.trans (b3.mono B.size)
    go_wp2_with fail
    refine (add_any _ _ (na) (nb) _ h_a h_b ((sa).fin (by omega)) ((sb).fin (by omega))).mono ?_
    rintro e w4 ⟨v_s1, rfl, h_s1, b4⟩
    replace h_a := h_a.below b4
    replace h_b := h_b.below b4
    replace B := B.trans (b4.mono B.size)
    go_wp2_with fail
    refine (radd_any _ _ (na) (nb) _ h_a h_b ((sa).fin (by omega)) ((sb).fin (by omega))).mono ?_
    rintro e w5 ⟨v_s2, rfl, h_s2, b5⟩
    replace h_a := h_a.below b5
    replace h_b := h_b.below b5
    replace h_s1 := h_s1.below b5
    replace B := B.trans (b5.mono B.size)
    go_wp2_with fail
    refine (rsame_eq _ _ ((na + nb)) ((na + nb)) _ h_s1 h_s2 (rfl)).mono ?_
    rintro e w6 ⟨rfl, n6, hn6⟩
    have b6 : Below w5.heap.size w5 w6 := by rw [hn6]; exact below_drewN (Below.refl _ _) n6
    clear hn6
    replace h_a := h_a.below b6
    replace h_b := h_b.below b6
    replace h_s1 := h_s1.below b6
    replace h_s2 := h_s2.below b6
    replace B := B.trans (b6.mono B.size)
    go_wp2_with fail
    refine (mul_any _ _ (na) (nb) _ h_a h_b ((sa).fin (by omega)) ((sb).fin (by omega))).mono ?_
    rintro e w7 ⟨v_p1, rfl, h_p1, b7⟩
    replace h_a := h_a.below b7
    replace h_b := h_b.below b7
    replace h_s1 := h_s1.below b7
    replace h_s2 := h_s2.below b7
    replace B := B.trans (b7.mono B.size)
    go_wp2_with fail
    refine (rmul_any _ _ (na) (nb) _ h_a h_b ((sa).fin (by omega)) ((sb).fin (by omega))).mono ?_
    rintro e w8 ⟨v_p2, rfl, h_p2, b8⟩
    replace h_a := h_a.below b8
    replace h_b := h_b.below b8
    replace h_s1 := h_s1.below b8
    replace h_s2 := h_s2.below b8
    replace h_p1 := h_p1.below b8
    replace B := B.trans (b8.mono B.size)
    go_wp2_with fail
    refine (rsame_eq _ _ ((na * nb)) ((na * nb)) _ h_p1 h_p2 (rfl)).mono ?_
    rintro e w9 ⟨rfl, n9, hn9⟩
    have b9 : Below w8.heap.size w8 w9 := by rw [hn9]; exact below_drewN (Below.refl _ _) n9
    clear hn9
    replace h_a := h_a.below b9
    replace h_b := h_b.below b9
    replace h_s1 := h_s1.below b9
    replace h_s2 := h_s2.below b9
    replace h_p1 := h_p1.below b9
    replace h_p2 := h_p2.below b9
    replace B := B.trans (b9.mono B.size)
    go_wp2_with fail
    refine (rsame_eq _ _ 0 0 _ (IsN.zero _) (IsN.zero _) rfl).mono ?_
    rintro e w10 ⟨rfl, n10, hn10⟩
    have b10 : Below w9.heap.size w9 w10 := by rw [hn10]; exact below_drewN (Below.refl _ _) n10
    clear hn10
    replace h_a := h_a.below b10
    replace h_b := h_b.below b10
    replace h_s1 := h_s1.below b10
    replace h_s2 := h_s2.below b10
    replace h_p1 := h_p1.below b10
    replace h_p2 := h_p2.below b10
    replace B := B.trans (b10.mono B.size)
    go_wp2
    go_ret
    exact ⟨rfl, B⟩
  · have hle : nb ≤ na := by omega
    clear hlt
    go_wp2_with fail
    refine (sub_any _ _ na nb _ h_a h_b (sa.fin (by omega)) (sb.fin (by omega)) hle).mono ?_
    rintro e w1 ⟨v_x, rfl, h_x, b1⟩
    replace h_a := h_a.below b1
    replace h_b := h_b.below b1
    replace B := B.trans (b1.mono B.size)
    go_wp2_with fail
    refine (rsub_any _ _ na nb _ h_a h_b (sa.fin (by omega)) (sb.fin (by omega)) hle).mono ?_
    rintro e w2 ⟨v_y, rfl, h_y, b2⟩
    replace h_a := h_a.below b2
    replace h_b := h_b.below b2
    replace h_x := h_x.below b2
    replace B := B.trans (b2.mono B.size)
    go_wp2_with fail
    refine (alive01_any _).mono ?_
    rintro e w3 ⟨rfl, b3⟩
    replace h_a := h_a.below b3
    replace h_b := h_b.below b3
    replace h_x := h_x.below b3
    replace h_y := h_y.below b3
    replace B := B.trans (b3.mono B.size)
    go_wp2_with fail
    refine (add_any _ _ (na) (nb) _ h_a h_b ((sa).fin (by omega)) ((sb).fin (by omega))).mono ?_
    rintro e w4 ⟨v_s1, rfl, h_s1, b4⟩
    replace h_a := h_a.below b4
    replace h_b := h_b.below b4
    replace h_x := h_x.below b4
    replace h_y := h_y.below b4
    replace B := B.trans (b4.mono B.size)
    go_wp2_with fail
    refine (radd_any _ _ (na) (nb) _ h_a h_b ((sa).fin (by omega)) ((sb).fin (by omega))).mono ?_
    rintro e w5 ⟨v_s2, rfl, h_s2, b5⟩
    replace h_a := h_a.below b5
    replace h_b := h_b.below b5
    replace h_x := h_x.below b5
    replace h_y := h_y.below b5
    replace h_s1 := h_s1.below b5
    replace B := B.trans (b5.mono B.size)
    go_wp2_with fail
    refine (rsame_eq _ _ ((na + nb)) ((na + nb)) _ h_s1 h_s2 (rfl)).mono ?_
    rintro e w6 ⟨rfl, n6, hn6⟩
    have b6 : Below w5.heap.size w5 w6 := by rw [hn6]; exact below_drewN (Below.refl _ _) n6
    clear hn6
    replace h_a := h_a.below b6
    replace h_b := h_b.below b6
    replace h_x := h_x.below b6
    replace h_y := h_y.below b6
    replace h_s1 := h_s1.below b6
    replace h_s2 := h_s2.below b6
    replace B := B.trans (b6.mono B.size)
    go_wp2_with fail
    refine (mul_any _ _ (na) (nb) _ h_a h_b ((sa).fin (by omega)) ((sb).fin (by omega))).mono ?_
    rintro e w7 ⟨v_p1, rfl, h_p1, b7⟩
    replace h_a := h_a.below b7
    replace h_b := h_b.below b7
    replace h_x := h_x.below b7
    replace h_y := h_y.below b7
    replace h_s1 := h_s1.below b7
    replace h_s2 := h_s2.below b7
    replace B := B.trans (b7.mono B.size)
    go_wp2_with fail
    refine (rmul_any _ _ (na) (nb) _ h_a h_b ((sa).fin (by omega)) ((sb).fin (by omega))).mono ?_
    rintro e w8 ⟨v_p2, rfl, h_p2, b8⟩
    replace h_a := h_a.below b8
    replace h_b := h_b.below b8
    replace h_x := h_x.below b8
    replace h_y := h_y.below b8
    replace h_s1 := h_s1.below b8
    replace h_s2 := h_s2.below b8
    replace h_p1 := h_p1.below b8
    replace B := B.trans (b8.mono B.size)
    go_wp2_with fail
    refine (rsame_eq _ _ ((na * nb)) ((na * nb)) _ h_p1 h_p2 (rfl)).mono ?_
    rintro e w9 ⟨rfl, n9, hn9⟩
    have b9 : Below w8.heap.size w8 w9 := by rw [hn9]; exact below_drewN (Below.refl _ _) n9
    clear hn9
    replace h_a := h_a.below b9
    replace h_b := h_b.below b9
    replace h_x := h_x.below b9
    replace h_y := h_y.below b9
    replace h_s1 := h_s1.below b9
    replace h_s2 := h_s2.below b9
    replace h_p1 := h_p1.below b9
    replace h_p2 := h_p2.below b9
    replace B := B.trans (b9.mono B.size)
    go_wp2_with fail
    refine (rsame_eq _ _ (na - nb) (na - nb) _ h_x h_y (rfl)).mono ?_
    rintro e w10 ⟨rfl, n10, hn10⟩
    have b10 : Below w9.heap.size w9 w10 := by rw [hn10]; exact below_drewN (Below.refl _ _) n10
    clear hn10
    replace h_a := h_a.below b10
    replace h_b := h_b.below b10
    replace h_x := h_x.below b10
    replace h_y := h_y.below b10
    replace h_s1 := h_s1.below b10
    replace h_s2 := h_s2.below b10
    replace h_p1 := h_p1.below b10
    replace h_p2 := h_p2.below b10
    replace B := B.trans (b10.mono B.size)
    go_wp2
    go_ret
    exact ⟨rfl, B⟩

theorem NatReckons_walk : LawWalk 7 Try.f7 := by
  intro W base args H enc ds p hval hA hlt _
  rw [show Try.f7.params.toList = [23, 23] from rfl] at hA
  obtain ⟨va, vsa, da, dsa, pa, qa, hargs, rfl, rfl, ha, ra⟩ := trodAll_cons hA
  obtain ⟨vb, vsb, db, dsb, pb, qb, rfl, rfl, rfl, hb, rb⟩ := trodAll_cons ra
  obtain ⟨rfl, rfl, rfl⟩ := trodAll_nil rb
  obtain rfl : args = #[va, vb] := by cases args; simp_all
  obtain ⟨la, ka⟩ := open_limbs Try.underlying23 (hval 0 23 va rfl rfl) ha (fun x hx => hlt x (by simp [hx]))
  obtain ⟨lb, kb⟩ := open_limbs Try.underlying23 (hval 1 23 vb rfl rfl) hb (fun x hx => hlt x (by simp [hx]))
  by_cases hg : (good la && good lb) = true
  · have hg' := hg
    simp only [Bool.and_eq_true] at hg'
    obtain ⟨ga, gb⟩ := hg'
    exact NatReckons_good _ _ _ _ W (ka.num_of ga).1 (kb.num_of gb).1 (ka.num_of ga).2 (kb.num_of gb).2
  · exact NatReckons_bad _ _ _ _ W ka kb (by simpa using hg)

set_option maxRecDepth 100000 in
/-- the given statement -/
theorem NatReckons_holds : Rows.NatReckonsSaid :=
  OpenClaim.holds_of_wide 7 Try.f7 rfl rfl rfl rfl rfl rfl rfl ⟨rfl, rfl, rfl, rfl, rfl⟩ rfl rfl rfl rfl rfl (by kernel_rfl) Try.func7 (by kernel_rfl)
    (of_decide_eq_true (by kernel_rfl)) (by unfold Func.isWrapper; first | (rw [if_pos (by decide +kernel)]; kernel_rfl) | (rw [if_neg (by decide +kernel)]; exact ⟨rfl, rfl⟩))
    (fun os started H enc _ => law_lifted 7 Try.f7 Rows.natReckonsSpec Rows.natReckonsRow.domain rfl rfl rfl Try.func7 (by kernel_rfl) (by decide +kernel)
      (fun H ds h => by
        have h' : ds.length = 2 := h
        match ds, h' with
        | [_, _], _ => exact ⟨rfl, rfl, rfl⟩)
      (fun os _ H enc => ChangeSpec.witness6 (enc := enc) (C := Try.checked) false ⟨#[], #[.slice none 0 0, .slice none 0 0], []⟩ 8 (by kernel_rfl) (by kernel_rfl) (by kernel_rfl) (by kernel_rfl))
      NatReckons_walk os started H enc)
end Go.Proofs.Ytegfgjapmnokjaa
