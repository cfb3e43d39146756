/- BACK of layer 1: what is added is taken away again, and the like. No condition. -/
import Derived.Test.YtegfgjapmnokjaaNatAid
import Derived.Test.YtegfgjapmnokjaaOpen
namespace Go.Proofs.Ytegfgjapmnokjaa
open Go.ChangeShapes Go.WideShapes Go.ChangeAt Go.RowKit

set_option maxHeartbeats 1000000 in
theorem NatBack_bad (va vb : Value) (la lb : List Nat) (w : World) (h_a : IsL w va la) (h_b : IsL w vb lb) (hg : (good la && good lb) = false) :
    Calls Try.prog 8 #[va, vb] w fun e w' => e = .returned (.bool true) ∧ Below w.heap.size w w' := by
  obtain ⟨Aa, ma, ca, rfl⟩ := h_a.form
  obtain ⟨Ab, mb, cb, rfl⟩ := h_b.form
  have B : Below w.heap.size w (w.alloc (.cells #[.slice Aa ma ca, .slice Ab mb cb] 23)) := (Below.refl _ w).alloc (Nat.le_refl _) _
  have GV : Hid (Calls Try.prog 16 #[.slice (some ⟨w.heap.size, 0, none⟩) 2 2] (w.alloc (.cells #[.slice Aa ma ca, .slice Ab mb cb] 23)) fun e w' => e = .returned (.bool false) ∧ (w.alloc (.cells #[.slice Aa ma ca, .slice Ab mb cb] 23)) = w') := by
    have := given_any (some ⟨w.heap.size, 0, none⟩) 2 [(.slice Aa ma ca, la), (.slice Ab mb cb, lb)] (w.alloc (.cells #[.slice Aa ma ca, .slice Ab mb cb] 23)) (by simpa using Reads.fresh w 23 [.slice Aa ma ca, .slice Ab mb cb] 2 rfl) (by
      intro p hp
      simp only [List.mem_cons, List.not_mem_nil, or_false] at hp
      rcases hp with rfl | rfl
      · exact IsL.below h_a B
      · exact IsL.below h_b B) (by simp)
    have e : ([(.slice Aa ma ca, la), (.slice Ab mb cb, lb)] : List (Value × List Nat)).all (fun p => good p.2) = false := by
      simp only [List.all_cons, List.all_nil, Bool.and_true]
      exact hg
    rw [e] at this
    exact this
  go_enter Try.func8, Try.ntmps8
  go_wp2_with fail
  refine GV.out.mono ?_
  rintro e w0 ⟨rfl, rfl⟩
  go_wp2_with fail
  refine (alive01_any _).mono ?_
  rintro e w1 ⟨rfl, b1⟩
  go_wp2
  go_ret
  exact ⟨rfl, B.trans (b1.mono B.size)⟩

set_option maxRecDepth 100000 in
set_option maxHeartbeats 4000000 in
theorem NatBack_good (va vb : Value) (na nb : Nat) (w : World) (h_a : IsN w va na) (h_b : IsN w vb nb) (sa : Sz na 20) (sb : Sz nb 20) :
    Calls Try.prog 8 #[va, vb] w fun e w' => e = .returned (.bool true) ∧ Below w.heap.size w w' := by
  obtain ⟨Aa, ma, ca, rfl⟩ := h_a.form
  obtain ⟨Ab, mb, cb, rfl⟩ := h_b.form
  have B : Below w.heap.size w (w.alloc (.cells #[.slice Aa ma ca, .slice Ab mb cb] 23)) := (Below.refl _ w).alloc (Nat.le_refl _) _
  have GV : Hid (Calls Try.prog 16 #[.slice (some ⟨w.heap.size, 0, none⟩) 2 2] (w.alloc (.cells #[.slice Aa ma ca, .slice Ab mb cb] 23)) fun e w' => e = .returned (.bool true) ∧ (w.alloc (.cells #[.slice Aa ma ca, .slice Ab mb cb] 23)) = w') := by
    have := given_any (some ⟨w.heap.size, 0, none⟩) 2 [(.slice Aa ma ca, limbs na), (.slice Ab mb cb, limbs nb)] (w.alloc (.cells #[.slice Aa ma ca, .slice Ab mb cb] 23)) (by simpa using Reads.fresh w 23 [.slice Aa ma ca, .slice Ab mb cb] 2 rfl) (by
      intro p hp
      simp only [List.mem_cons, List.not_mem_nil, or_false] at hp
      rcases hp with rfl | rfl
      · exact IsL.below h_a B
      · exact IsL.below h_b B) (by simp)
    have e : ([(.slice Aa ma ca, limbs na), (.slice Ab mb cb, limbs nb)] : List (Value × List Nat)).all (fun p => good p.2) = true := by
      simp only [List.all_cons, List.all_nil, Bool.and_true]
      simp [h_a.good sa, h_b.good sb]
    rw [e] at this
    exact this
  replace h_a := h_a.below B
  replace h_b := h_b.below B
  go_enter Try.func8, Try.ntmps8
  go_wp2_with fail
  refine GV.out.mono ?_
  rintro e w0 ⟨rfl, rfl⟩
  clear GV
  generalize w.alloc (.cells #[.slice Aa ma ca, .slice Ab mb cb] 23) = w0 at *
  go_wp2_with fail
  refine (add_any _ _ (na) (nb) _ h_a h_b ((sa).fin (by omega)) ((sb).fin (by omega))).mono ?_
  rintro e w1 ⟨v_ab, rfl, h_ab, b1⟩
  replace h_a := h_a.below b1
  replace h_b := h_b.below b1
  replace B := B.trans (b1.mono B.size)
  go_wp2_with fail
  refine (sub_to _ _ ((na + nb)) (nb) (na) _ h_ab h_b (((Sz.add sa sb)).fin (by omega)) ((sb).fin (by omega)) (rfl)).mono ?_
  rintro e w2 ⟨v_x, rfl, h_x, b2⟩
  replace h_a := h_a.below b2
  replace h_b := h_b.below b2
  replace h_ab := h_ab.below b2
  replace B := B.trans (b2.mono B.size)
  by_cases hlt : na < nb
  · go_wp2_with fail
    refine (sub_less _ _ na nb _ h_a h_b hlt).mono ?_
    rintro e w3 ⟨rfl, b3⟩
    replace h_a := h_a.below b3
    replace h_b := h_b.below b3
    replace h_ab := h_ab.below b3
    replace h_x := h_x.below b3
    replace B := B.trans (b3.mono B.size)
    go_wp2_with fail
    refine (rsame_eq _ _ (na) (na) _ h_x h_a (rfl)).mono ?_
    rintro e w4 ⟨rfl, n4, hn4⟩
    have b4 : Below w3.heap.size w3 w4 := by rw [hn4]; exact below_drewN (Below.refl _ _) n4
    clear hn4
    replace h_a := h_a.below b4
    replace h_b := h_b.below b4
    replace h_ab := h_ab.below b4
    replace h_x := h_x.below b4
    replace B := B.trans (b4.mono B.size)
    go_wp2_with fail
    refine (cmp_lt _ _ na nb _ h_a h_b hlt).mono ?_
    rintro e w5 ⟨rfl, b5⟩
    replace h_a := h_a.below b5
    replace h_b := h_b.below b5
    replace h_ab := h_ab.below b5
    replace h_x := h_x.below b5
    replace B := B.trans (b5.mono B.size)
    go_wp2_with fail
    refine (alive01_any _).mono ?_
    rintro e w6 ⟨rfl, b6⟩
    replace h_a := h_a.below b6
    replace h_b := h_b.below b6
    replace h_ab := h_ab.below b6
    replace h_x := h_x.below b6
    replace B := B.trans (b6.mono B.size)
    go_wp2
    go_ret
    exact ⟨rfl, B⟩
  · have hle : nb ≤ na := by omega
    clear hlt
    have hq : 0 ≤ cmpI (na : Int) (nb : Int) := by unfold cmpI; split <;> (try split) <;> omega
    go_wp2_with fail
    refine (sub_any _ _ na nb _ h_a h_b (sa.fin (by omega)) (sb.fin (by omega)) hle).mono ?_
    rintro e w3 ⟨v_y, rfl, h_y, b3⟩
    replace h_a := h_a.below b3
    replace h_b := h_b.below b3
    replace h_ab := h_ab.below b3
    replace h_x := h_x.below b3
    replace B := B.trans (b3.mono B.size)
    go_wp2_with fail
    refine (rsame_eq _ _ (na) (na) _ h_x h_a (rfl)).mono ?_
    rintro e w4 ⟨rfl, n4, hn4⟩
    have b4 : Below w3.heap.size w3 w4 := by rw [hn4]; exact below_drewN (Below.refl _ _) n4
    clear hn4
    replace h_a := h_a.below b4
    replace h_b := h_b.below b4
    replace h_ab := h_ab.below b4
    replace h_x := h_x.below b4
    replace h_y := h_y.below b4
    replace B := B.trans (b4.mono B.size)
    go_wp2_with fail
    refine (cmp_any _ _ na nb _ h_a h_b).mono ?_
    rintro e w5 ⟨rfl, b5⟩
    replace h_a := h_a.below b5
    replace h_b := h_b.below b5
    replace h_ab := h_ab.below b5
    replace h_x := h_x.below b5
    replace h_y := h_y.below b5
    replace B := B.trans (b5.mono B.size)
    go_wp2_with fail
    refine (alive01_any _).mono ?_
    rintro e w6 ⟨rfl, b6⟩
    replace h_a := h_a.below b6
    replace h_b := h_b.below b6
    replace h_ab := h_ab.below b6
    replace h_x := h_x.below b6
    replace h_y := h_y.below b6
    replace B := B.trans (b6.mono B.size)
    go_wp2_with fail
    refine (add_to _ _ (na - nb) (nb) (na) _ h_y h_b (((Sz.sub sa)).fin (by omega)) ((sb).fin (by omega)) (by omega)).mono ?_
    rintro e w7 ⟨v_z, rfl, h_z, b7⟩
    replace h_a := h_a.below b7
    replace h_b := h_b.below b7
    replace h_ab := h_ab.below b7
    replace h_x := h_x.below b7
    replace h_y := h_y.below b7
    replace B := B.trans (b7.mono B.size)
    go_wp2_with fail
    refine (rsame_eq _ _ (na) (na) _ h_z h_a (rfl)).mono ?_
    rintro e w8 ⟨rfl, n8, hn8⟩
    have b8 : Below w7.heap.size w7 w8 := by rw [hn8]; exact below_drewN (Below.refl _ _) n8
    clear hn8
    replace h_a := h_a.below b8
    replace h_b := h_b.below b8
    replace h_ab := h_ab.below b8
    replace h_x := h_x.below b8
    replace h_y := h_y.below b8
    replace h_z := h_z.below b8
    replace B := B.trans (b8.mono B.size)
    go_wp2_with fail
    refine (add_to _ _ na 0 na _ h_a (IsN.zero _) (sa.fin (by omega)) (Sz.zero.fin (by omega)) rfl).mono ?_
    rintro e w9 ⟨v_u, rfl, h_u, b9⟩
    replace h_a := h_a.below b9
    replace h_b := h_b.below b9
    replace h_ab := h_ab.below b9
    replace h_x := h_x.below b9
    replace h_y := h_y.below b9
    replace h_z := h_z.below b9
    replace B := B.trans (b9.mono B.size)
    go_wp2_with fail
    refine (rsame_eq _ _ (na) (na) _ h_u h_a (rfl)).mono ?_
    rintro e w10 ⟨rfl, n10, hn10⟩
    have b10 : Below w9.heap.size w9 w10 := by rw [hn10]; exact below_drewN (Below.refl _ _) n10
    clear hn10
    replace h_a := h_a.below b10
    replace h_b := h_b.below b10
    replace h_ab := h_ab.below b10
    replace h_x := h_x.below b10
    replace h_y := h_y.below b10
    replace h_z := h_z.below b10
    replace h_u := h_u.below b10
    replace B := B.trans (b10.mono B.size)
    go_wp2_with fail
    refine (of_any 1 (by unfold W64; omega) _).mono ?_
    rintro e w11 ⟨v_o, rfl, h_o, b11⟩
    replace h_a := h_a.below b11
    replace h_b := h_b.below b11
    replace h_ab := h_ab.below b11
    replace h_x := h_x.below b11
    replace h_y := h_y.below b11
    replace h_z := h_z.below b11
    replace h_u := h_u.below b11
    replace B := B.trans (b11.mono B.size)
    go_wp2_with fail
    refine (mul_to _ _ na 1 na _ h_a h_o (sa.fin (by omega)) (Sz.one.fin (by omega)) (Nat.mul_one _)).mono ?_
    rintro e w12 ⟨v_p, rfl, h_p, b12⟩
    replace h_a := h_a.below b12
    replace h_b := h_b.below b12
    replace h_ab := h_ab.below b12
    replace h_x := h_x.below b12
    replace h_y := h_y.below b12
    replace h_z := h_z.below b12
    replace h_u := h_u.below b12
    replace h_o := h_o.below b12
    replace B := B.trans (b12.mono B.size)
    go_wp2_with fail
    refine (rsame_eq _ _ (na) (na) _ h_p h_a (rfl)).mono ?_
    rintro e w13 ⟨rfl, n13, hn13⟩
    have b13 : Below w12.heap.size w12 w13 := by rw [hn13]; exact below_drewN (Below.refl _ _) n13
    clear hn13
    replace h_a := h_a.below b13
    replace h_b := h_b.below b13
    replace h_ab := h_ab.below b13
    replace h_x := h_x.below b13
    replace h_y := h_y.below b13
    replace h_z := h_z.below b13
    replace h_u := h_u.below b13
    replace h_o := h_o.below b13
    replace h_p := h_p.below b13
    replace B := B.trans (b13.mono B.size)
    go_wp2_with fail
    refine (mul_to _ _ na 0 0 _ h_a (IsN.zero _) (sa.fin (by omega)) (Sz.zero.fin (by omega)) (Nat.mul_zero _)).mono ?_
    rintro e w14 ⟨v_q, rfl, h_q, b14⟩
    replace h_a := h_a.below b14
    replace h_b := h_b.below b14
    replace h_ab := h_ab.below b14
    replace h_x := h_x.below b14
    replace h_y := h_y.below b14
    replace h_z := h_z.below b14
    replace h_u := h_u.below b14
    replace h_o := h_o.below b14
    replace h_p := h_p.below b14
    replace B := B.trans (b14.mono B.size)
    obtain ⟨Aq, cq, rfl⟩ := h_q.zero_form
    go_wp2
    go_ret
    exact ⟨rfl, B⟩

theorem NatBack_walk : LawWalk 8 Try.f8 := by
  intro W base args H enc ds p hval hA hlt _
  rw [show Try.f8.params.toList = [23, 23] from rfl] at hA
  obtain ⟨va, vsa, da, dsa, pa, qa, hargs, rfl, rfl, ha, ra⟩ := trodAll_cons hA
  obtain ⟨vb, vsb, db, dsb, pb, qb, rfl, rfl, rfl, hb, rb⟩ := trodAll_cons ra
  obtain ⟨rfl, rfl, rfl⟩ := trodAll_nil rb
  obtain rfl : args = #[va, vb] := by cases args; simp_all
  obtain ⟨la, ka⟩ := open_limbs Try.underlying23 (hval 0 23 va rfl rfl) ha (fun x hx => hlt x (by simp [hx]))
  obtain ⟨lb, kb⟩ := open_limbs Try.underlying23 (hval 1 23 vb rfl rfl) hb (fun x hx => hlt x (by simp [hx]))
  by_cases hg : (good la && good lb) = true
  · have hg' := hg
    simp only [Bool.and_eq_true] at hg'
    obtain ⟨ga, gb⟩ := hg'
    exact NatBack_good _ _ _ _ W (ka.num_of ga).1 (kb.num_of gb).1 (ka.num_of ga).2 (kb.num_of gb).2
  · exact NatBack_bad _ _ _ _ W ka kb (by simpa using hg)

set_option maxRecDepth 100000 in
/-- the given statement -/
theorem NatBack_holds : Rows.NatBackSaid :=
  OpenClaim.holds_of_wide 8 Try.f8 rfl rfl rfl rfl rfl rfl rfl ⟨rfl, rfl, rfl, rfl, rfl⟩ rfl rfl rfl rfl rfl (by kernel_rfl) Try.func8 (by kernel_rfl)
    (of_decide_eq_true (by kernel_rfl)) (by unfold Func.isWrapper; first | (rw [if_pos (by decide +kernel)]; kernel_rfl) | (rw [if_neg (by decide +kernel)]; exact ⟨rfl, rfl⟩))
    (fun os started H enc _ => law_lifted 8 Try.f8 Rows.natBackSpec Rows.natBackRow.domain rfl rfl rfl Try.func8 (by kernel_rfl) (by decide +kernel)
      (fun H ds h => by
        have h' : ds.length = 2 := h
        match ds, h' with
        | [_, _], _ => exact ⟨rfl, rfl, rfl⟩)
      (fun os _ H enc => ChangeSpec.witness6 (enc := enc) (C := Try.checked) false ⟨#[], #[.slice none 0 0, .slice none 0 0], []⟩ 8 (by kernel_rfl) (by kernel_rfl) (by kernel_rfl) (by kernel_rfl))
      NatBack_walk os started H enc)
end Go.Proofs.Ytegfgjapmnokjaa
