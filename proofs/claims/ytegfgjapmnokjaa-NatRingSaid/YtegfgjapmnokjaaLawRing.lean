/- RING of layer 1: sums and products of numbers hang on no order, nor on brackets. No condition. -/
import Derived.Test.YtegfgjapmnokjaaNatSz
import Derived.Test.YtegfgjapmnokjaaOpen
namespace Go.Proofs.Ytegfgjapmnokjaa
open Go.ChangeShapes Go.WideShapes Go.ChangeAt Go.RowKit

set_option maxHeartbeats 1000000 in
theorem NatRing_bad (va vb vc : Value) (la lb lc : List Nat) (w : World) (h_a : IsL w va la) (h_b : IsL w vb lb) (h_c : IsL w vc lc) (hg : (good la && good lb && good lc) = false) :
    Calls Try.prog 4 #[va, vb, vc] w fun e w' => e = .returned (.bool true) ∧ Below w.heap.size w w' := by
  obtain ⟨Aa, ma, ca, rfl⟩ := h_a.form
  obtain ⟨Ab, mb, cb, rfl⟩ := h_b.form
  obtain ⟨Ac, mc, cc, rfl⟩ := h_c.form
  have B : Below w.heap.size w (w.alloc (.cells #[.slice Aa ma ca, .slice Ab mb cb, .slice Ac mc cc] 23)) := (Below.refl _ w).alloc (Nat.le_refl _) _
  have GV : Hid (Calls Try.prog 16 #[.slice (some ⟨w.heap.size, 0, none⟩) 3 3] (w.alloc (.cells #[.slice Aa ma ca, .slice Ab mb cb, .slice Ac mc cc] 23)) fun e w' => e = .returned (.bool false) ∧ (w.alloc (.cells #[.slice Aa ma ca, .slice Ab mb cb, .slice Ac mc cc] 23)) = w') := by
    have := given_any (some ⟨w.heap.size, 0, none⟩) 3 [(.slice Aa ma ca, la), (.slice Ab mb cb, lb), (.slice Ac mc cc, lc)] (w.alloc (.cells #[.slice Aa ma ca, .slice Ab mb cb, .slice Ac mc cc] 23)) (by simpa using Reads.fresh w 23 [.slice Aa ma ca, .slice Ab mb cb, .slice Ac mc cc] 3 rfl) (by
      intro p hp
      simp only [List.mem_cons, List.not_mem_nil, or_false] at hp
      rcases hp with rfl | rfl | rfl
      · exact IsL.below h_a B
      · exact IsL.below h_b B
      · exact IsL.below h_c B) (by simp)
    have e : ([(.slice Aa ma ca, la), (.slice Ab mb cb, lb), (.slice Ac mc cc, lc)] : List (Value × List Nat)).all (fun p => good p.2) = false := by
      simp only [List.all_cons, List.all_nil, Bool.and_true]
      rw [← Bool.and_assoc] ; exact hg
    rw [e] at this
    exact this
  go_enter Try.func4, Try.ntmps4
  go_wp2_with fail
  refine GV.out.mono ?_
  rintro e w0 ⟨rfl, rfl⟩
  go_wp2_with fail
  refine (alive01_any _).mono ?_
  rintro e w1 ⟨rfl, b1⟩
  go_wp2
  go_ret
  exact ⟨rfl, B.trans (b1.mono B.size)⟩

set_option maxRecDepth 100000 in
set_option maxHeartbeats 4000000 in
theorem NatRing_good (va vb vc : Value) (na nb nc : Nat) (w : World) (h_a : IsN w va na) (h_b : IsN w vb nb) (h_c : IsN w vc nc) (sa : Sz na 20) (sb : Sz nb 20) (sc : Sz nc 20) :
    Calls Try.prog 4 #[va, vb, vc] w fun e w' => e = .returned (.bool true) ∧ Below w.heap.size w w' := by
  obtain ⟨Aa, ma, ca, rfl⟩ := h_a.form
  obtain ⟨Ab, mb, cb, rfl⟩ := h_b.form
  obtain ⟨Ac, mc, cc, rfl⟩ := h_c.form
  have B : Below w.heap.size w (w.alloc (.cells #[.slice Aa ma ca, .slice Ab mb cb, .slice Ac mc cc] 23)) := (Below.refl _ w).alloc (Nat.le_refl _) _
  have GV : Hid (Calls Try.prog 16 #[.slice (some ⟨w.heap.size, 0, none⟩) 3 3] (w.alloc (.cells #[.slice Aa ma ca, .slice Ab mb cb, .slice Ac mc cc] 23)) fun e w' => e = .returned (.bool true) ∧ (w.alloc (.cells #[.slice Aa ma ca, .slice Ab mb cb, .slice Ac mc cc] 23)) = w') := by
    have := given_any (some ⟨w.heap.size, 0, none⟩) 3 [(.slice Aa ma ca, limbs na), (.slice Ab mb cb, limbs nb), (.slice Ac mc cc, limbs nc)] (w.alloc (.cells #[.slice Aa ma ca, .slice Ab mb cb, .slice Ac mc cc] 23)) (by simpa using Reads.fresh w 23 [.slice Aa ma ca, .slice Ab mb cb, .slice Ac mc cc] 3 rfl) (by
      intro p hp
      simp only [List.mem_cons, List.not_mem_nil, or_false] at hp
      rcases hp with rfl | rfl | rfl
      · exact IsL.below h_a B
      · exact IsL.below h_b B
      · exact IsL.below h_c B) (by simp)
    have e : ([(.slice Aa ma ca, limbs na), (.slice Ab mb cb, limbs nb), (.slice Ac mc cc, limbs nc)] : List (Value × List Nat)).all (fun p => good p.2) = true := by
      simp only [List.all_cons, List.all_nil, Bool.and_true]
      simp [h_a.good sa, h_b.good sb, h_c.good sc]
    rw [e] at this
    exact this
  replace h_a := h_a.below B
  replace h_b := h_b.below B
  replace h_c := h_c.below B
  go_enter Try.func4, Try.ntmps4
  go_wp2_with fail
  refine GV.out.mono ?_
  rintro e w0 ⟨rfl, rfl⟩
  clear GV
  generalize w.alloc (.cells #[.slice Aa ma ca, .slice Ab mb cb, .slice Ac mc cc] 23) = w0 at *
  go_wp2_with fail
  refine (add_any _ _ (na) (nb) _ h_a h_b ((sa).fin (by omega)) ((sb).fin (by omega))).mono ?_
  rintro e w1 ⟨v_ab, rfl, h_ab, b1⟩
  replace h_a := h_a.below b1
  replace h_b := h_b.below b1
  replace h_c := h_c.below b1
  replace B := B.trans (b1.mono B.size)
  go_wp2_with fail
  refine (mul_any _ _ (na) (nb) _ h_a h_b ((sa).fin (by omega)) ((sb).fin (by omega))).mono ?_
  rintro e w2 ⟨v_ba, rfl, h_ba, b2⟩
  replace h_a := h_a.below b2
  replace h_b := h_b.below b2
  replace h_c := h_c.below b2
  replace h_ab := h_ab.below b2
  replace B := B.trans (b2.mono B.size)
  go_wp2_with fail
  refine (rright_n _ ((na + nb)) _ h_ab).mono ?_
  rintro e w3 ⟨rfl, rfl⟩
  go_wp2_with fail
  refine (rright_n _ ((na * nb)) _ h_ba).mono ?_
  rintro e w4 ⟨rfl, rfl⟩
  go_wp2_with fail
  refine (add_any _ _ (nb) (na) _ h_b h_a ((sb).fin (by omega)) ((sa).fin (by omega))).mono ?_
  rintro e w5 ⟨v_x1, rfl, h_x1, b5⟩
  replace h_a := h_a.below b5
  replace h_b := h_b.below b5
  replace h_c := h_c.below b5
  replace h_ab := h_ab.below b5
  replace h_ba := h_ba.below b5
  replace B := B.trans (b5.mono B.size)
  go_wp2_with fail
  refine (rsame_eq _ _ ((na + nb)) ((nb + na)) _ h_ab h_x1 (Nat.add_comm _ _)).mono ?_
  rintro e w6 ⟨rfl, n6, hn6⟩
  have b6 : Below w5.heap.size w5 w6 := by rw [hn6]; exact below_drewN (Below.refl _ _) n6
  clear hn6
  replace h_a := h_a.below b6
  replace h_b := h_b.below b6
  replace h_c := h_c.below b6
  replace h_ab := h_ab.below b6
  replace h_ba := h_ba.below b6
  replace h_x1 := h_x1.below b6
  replace B := B.trans (b6.mono B.size)
  go_wp2_with fail
  refine (mul_any _ _ (nb) (na) _ h_b h_a ((sb).fin (by omega)) ((sa).fin (by omega))).mono ?_
  rintro e w7 ⟨v_x2, rfl, h_x2, b7⟩
  replace h_a := h_a.below b7
  replace h_b := h_b.below b7
  replace h_c := h_c.below b7
  replace h_ab := h_ab.below b7
  replace h_ba := h_ba.below b7
  replace h_x1 := h_x1.below b7
  replace B := B.trans (b7.mono B.size)
  go_wp2_with fail
  refine (rsame_eq _ _ ((na * nb)) ((nb * na)) _ h_ba h_x2 (Nat.mul_comm _ _)).mono ?_
  rintro e w8 ⟨rfl, n8, hn8⟩
  have b8 : Below w7.heap.size w7 w8 := by rw [hn8]; exact below_drewN (Below.refl _ _) n8
  clear hn8
  replace h_a := h_a.below b8
  replace h_b := h_b.below b8
  replace h_c := h_c.below b8
  replace h_ab := h_ab.below b8
  replace h_ba := h_ba.below b8
  replace h_x1 := h_x1.below b8
  replace h_x2 := h_x2.below b8
  replace B := B.trans (b8.mono B.size)
  go_wp2_with fail
  refine (add_any _ _ ((na + nb)) (nc) _ h_ab h_c (((Sz.add sa sb)).fin (by omega)) ((sc).fin (by omega))).mono ?_
  rintro e w9 ⟨v_x3, rfl, h_x3, b9⟩
  replace h_a := h_a.below b9
  replace h_b := h_b.below b9
  replace h_c := h_c.below b9
  replace h_ab := h_ab.below b9
  replace h_ba := h_ba.below b9
  replace h_x1 := h_x1.below b9
  replace h_x2 := h_x2.below b9
  replace B := B.trans (b9.mono B.size)
  go_wp2_with fail
  refine (add_any _ _ (nb) (nc) _ h_b h_c ((sb).fin (by omega)) ((sc).fin (by omega))).mono ?_
  rintro e w10 ⟨v_x4, rfl, h_x4, b10⟩
  replace h_a := h_a.below b10
  replace h_b := h_b.below b10
  replace h_c := h_c.below b10
  replace h_ab := h_ab.below b10
  replace h_ba := h_ba.below b10
  replace h_x1 := h_x1.below b10
  replace h_x2 := h_x2.below b10
  replace h_x3 := h_x3.below b10
  replace B := B.trans (b10.mono B.size)
  go_wp2_with fail
  refine (add_any _ _ (na) ((nb + nc)) _ h_a h_x4 ((sa).fin (by omega)) (((Sz.add sb sc)).fin (by omega))).mono ?_
  rintro e w11 ⟨v_x5, rfl, h_x5, b11⟩
  replace h_a := h_a.below b11
  replace h_b := h_b.below b11
  replace h_c := h_c.below b11
  replace h_ab := h_ab.below b11
  replace h_ba := h_ba.below b11
  replace h_x1 := h_x1.below b11
  replace h_x2 := h_x2.below b11
  replace h_x3 := h_x3.below b11
  replace h_x4 := h_x4.below b11
  replace B := B.trans (b11.mono B.size)
  go_wp2_with fail
  refine (rsame_eq _ _ (((na + nb) + nc)) ((na + (nb + nc))) _ h_x3 h_x5 (Nat.add_assoc _ _ _)).mono ?_
  rintro e w12 ⟨rfl, n12, hn12⟩
  have b12 : Below w11.heap.size w11 w12 := by rw [hn12]; exact below_drewN (Below.refl _ _) n12
  clear hn12
  replace h_a := h_a.below b12
  replace h_b := h_b.below b12
  replace h_c := h_c.below b12
  replace h_ab := h_ab.below b12
  replace h_ba := h_ba.below b12
  replace h_x1 := h_x1.below b12
  replace h_x2 := h_x2.below b12
  replace h_x3 := h_x3.below b12
  replace h_x4 := h_x4.below b12
  replace h_x5 := h_x5.below b12
  replace B := B.trans (b12.mono B.size)
  go_wp2_with fail
  refine (mul_any _ _ ((na * nb)) (nc) _ h_ba h_c (((Sz.mul sa sb)).fin (by omega)) ((sc).fin (by omega))).mono ?_
  rintro e w13 ⟨v_x6, rfl, h_x6, b13⟩
  replace h_a := h_a.below b13
  replace h_b := h_b.below b13
  replace h_c := h_c.below b13
  replace h_ab := h_ab.below b13
  replace h_ba := h_ba.below b13
  replace h_x1 := h_x1.below b13
  replace h_x2 := h_x2.below b13
  replace h_x3 := h_x3.below b13
  replace h_x4 := h_x4.below b13
  replace h_x5 := h_x5.below b13
  replace B := B.trans (b13.mono B.size)
  go_wp2_with fail
  refine (mul_any _ _ (nb) (nc) _ h_b h_c ((sb).fin (by omega)) ((sc).fin (by omega))).mono ?_
  rintro e w14 ⟨v_x7, rfl, h_x7, b14⟩
  replace h_a := h_a.below b14
  replace h_b := h_b.below b14
  replace h_c := h_c.below b14
  replace h_ab := h_ab.below b14
  replace h_ba := h_ba.below b14
  replace h_x1 := h_x1.below b14
  replace h_x2 := h_x2.below b14
  replace h_x3 := h_x3.below b14
  replace h_x4 := h_x4.below b14
  replace h_x5 := h_x5.below b14
  replace h_x6 := h_x6.below b14
  replace B := B.trans (b14.mono B.size)
  go_wp2_with fail
  refine (mul_any _ _ (na) ((nb * nc)) _ h_a h_x7 ((sa).fin (by omega)) (((Sz.mul sb sc)).fin (by omega))).mono ?_
  rintro e w15 ⟨v_x8, rfl, h_x8, b15⟩
  replace h_a := h_a.below b15
  replace h_b := h_b.below b15
  replace h_c := h_c.below b15
  replace h_ab := h_ab.below b15
  replace h_ba := h_ba.below b15
  replace h_x1 := h_x1.below b15
  replace h_x2 := h_x2.below b15
  replace h_x3 := h_x3.below b15
  replace h_x4 := h_x4.below b15
  replace h_x5 := h_x5.below b15
  replace h_x6 := h_x6.below b15
  replace h_x7 := h_x7.below b15
  replace B := B.trans (b15.mono B.size)
  go_wp2_with fail
  refine (rsame_eq _ _ (((na * nb) * nc)) ((na * (nb * nc))) _ h_x6 h_x8 (Nat.mul_assoc _ _ _)).mono ?_
  rintro e w16 ⟨rfl, n16, hn16⟩
  have b16 : Below w15.heap.size w15 w16 := by rw [hn16]; exact below_drewN (Below.refl _ _) n16
  clear hn16
  replace h_a := h_a.below b16
  replace h_b := h_b.below b16
  replace h_c := h_c.below b16
  replace h_ab := h_ab.below b16
  replace h_ba := h_ba.below b16
  replace h_x1 := h_x1.below b16
  replace h_x2 := h_x2.below b16
  replace h_x3 := h_x3.below b16
  replace h_x4 := h_x4.below b16
  replace h_x5 := h_x5.below b16
  replace h_x6 := h_x6.below b16
  replace h_x7 := h_x7.below b16
  replace h_x8 := h_x8.below b16
  replace B := B.trans (b16.mono B.size)
  go_wp2_with fail
  refine (alive01_any _).mono ?_
  rintro e w17 ⟨rfl, b17⟩
  replace h_a := h_a.below b17
  replace h_b := h_b.below b17
  replace h_c := h_c.below b17
  replace h_ab := h_ab.below b17
  replace h_ba := h_ba.below b17
  replace h_x1 := h_x1.below b17
  replace h_x2 := h_x2.below b17
  replace h_x3 := h_x3.below b17
  replace h_x4 := h_x4.below b17
  replace h_x5 := h_x5.below b17
  replace h_x6 := h_x6.below b17
  replace h_x7 := h_x7.below b17
  replace h_x8 := h_x8.below b17
  replace B := B.trans (b17.mono B.size)
  go_wp2_with fail
  refine (mul_any _ _ ((na + nb)) (nc) _ h_ab h_c (((Sz.add sa sb)).fin (by omega)) ((sc).fin (by omega))).mono ?_
  rintro e w18 ⟨v_y1, rfl, h_y1, b18⟩
  replace h_a := h_a.below b18
  replace h_b := h_b.below b18
  replace h_c := h_c.below b18
  replace h_ab := h_ab.below b18
  replace h_ba := h_ba.below b18
  replace h_x1 := h_x1.below b18
  replace h_x2 := h_x2.below b18
  replace h_x3 := h_x3.below b18
  replace h_x4 := h_x4.below b18
  replace h_x5 := h_x5.below b18
  replace h_x6 := h_x6.below b18
  replace h_x7 := h_x7.below b18
  replace h_x8 := h_x8.below b18
  replace B := B.trans (b18.mono B.size)
  go_wp2_with fail
  refine (mul_any _ _ (na) (nc) _ h_a h_c ((sa).fin (by omega)) ((sc).fin (by omega))).mono ?_
  rintro e w19 ⟨v_y2, rfl, h_y2, b19⟩
  replace h_a := h_a.below b19
  replace h_b := h_b.below b19
  replace h_c := h_c.below b19
  replace h_ab := h_ab.below b19
  replace h_ba := h_ba.below b19
  replace h_x1 := h_x1.below b19
  replace h_x2 := h_x2.below b19
  replace h_x3 := h_x3.below b19
  replace h_x4 := h_x4.below b19
  replace h_x5 := h_x5.below b19
  replace h_x6 := h_x6.below b19
  replace h_x7 := h_x7.below b19
  replace h_x8 := h_x8.below b19
  replace h_y1 := h_y1.below b19
  replace B := B.trans (b19.mono B.size)
  go_wp2_with fail
  refine (mul_any _ _ (nb) (nc) _ h_b h_c ((sb).fin (by omega)) ((sc).fin (by omega))).mono ?_
  rintro e w20 ⟨v_y3, rfl, h_y3, b20⟩
  replace h_a := h_a.below b20
  replace h_b := h_b.below b20
  replace h_c := h_c.below b20
  replace h_ab := h_ab.below b20
  replace h_ba := h_ba.below b20
  replace h_x1 := h_x1.below b20
  replace h_x2 := h_x2.below b20
  replace h_x3 := h_x3.below b20
  replace h_x4 := h_x4.below b20
  replace h_x5 := h_x5.below b20
  replace h_x6 := h_x6.below b20
  replace h_x7 := h_x7.below b20
  replace h_x8 := h_x8.below b20
  replace h_y1 := h_y1.below b20
  replace h_y2 := h_y2.below b20
  replace B := B.trans (b20.mono B.size)
  go_wp2_with fail
  refine (add_any _ _ ((na * nc)) ((nb * nc)) _ h_y2 h_y3 (((Sz.mul sa sc)).fin (by omega)) (((Sz.mul sb sc)).fin (by omega))).mono ?_
  rintro e w21 ⟨v_y4, rfl, h_y4, b21⟩
  replace h_a := h_a.below b21
  replace h_b := h_b.below b21
  replace h_c := h_c.below b21
  replace h_ab := h_ab.below b21
  replace h_ba := h_ba.below b21
  replace h_x1 := h_x1.below b21
  replace h_x2 := h_x2.below b21
  replace h_x3 := h_x3.below b21
  replace h_x4 := h_x4.below b21
  replace h_x5 := h_x5.below b21
  replace h_x6 := h_x6.below b21
  replace h_x7 := h_x7.below b21
  replace h_x8 := h_x8.below b21
  replace h_y1 := h_y1.below b21
  replace h_y2 := h_y2.below b21
  replace h_y3 := h_y3.below b21
  replace B := B.trans (b21.mono B.size)
  go_wp2_with fail
  refine (rsame_eq _ _ (((na + nb) * nc)) (((na * nc) + (nb * nc))) _ h_y1 h_y4 (Nat.add_mul _ _ _)).mono ?_
  rintro e w22 ⟨rfl, n22, hn22⟩
  have b22 : Below w21.heap.size w21 w22 := by rw [hn22]; exact below_drewN (Below.refl _ _) n22
  clear hn22
  replace h_a := h_a.below b22
  replace h_b := h_b.below b22
  replace h_c := h_c.below b22
  replace h_ab := h_ab.below b22
  replace h_ba := h_ba.below b22
  replace h_x1 := h_x1.below b22
  replace h_x2 := h_x2.below b22
  replace h_x3 := h_x3.below b22
  replace h_x4 := h_x4.below b22
  replace h_x5 := h_x5.below b22
  replace h_x6 := h_x6.below b22
  replace h_x7 := h_x7.below b22
  replace h_x8 := h_x8.below b22
  replace h_y1 := h_y1.below b22
  replace h_y2 := h_y2.below b22
  replace h_y3 := h_y3.below b22
  replace h_y4 := h_y4.below b22
  replace B := B.trans (b22.mono B.size)
  go_wp2
  go_ret
  exact ⟨rfl, B⟩

theorem NatRing_walk : LawWalk 4 Try.f4 := by
  intro W base args H enc ds p hval hA hlt _
  rw [show Try.f4.params.toList = [23, 23, 23] from rfl] at hA
  obtain ⟨va, vsa, da, dsa, pa, qa, hargs, rfl, rfl, ha, ra⟩ := trodAll_cons hA
  obtain ⟨vb, vsb, db, dsb, pb, qb, rfl, rfl, rfl, hb, rb⟩ := trodAll_cons ra
  obtain ⟨vc, vsc, dc, dsc, pc, qc, rfl, rfl, rfl, hc, rc⟩ := trodAll_cons rb
  obtain ⟨rfl, rfl, rfl⟩ := trodAll_nil rc
  obtain rfl : args = #[va, vb, vc] := by cases args; simp_all
  obtain ⟨la, ka⟩ := open_limbs Try.underlying23 (hval 0 23 va rfl rfl) ha (fun x hx => hlt x (by simp [hx]))
  obtain ⟨lb, kb⟩ := open_limbs Try.underlying23 (hval 1 23 vb rfl rfl) hb (fun x hx => hlt x (by simp [hx]))
  obtain ⟨lc, kc⟩ := open_limbs Try.underlying23 (hval 2 23 vc rfl rfl) hc (fun x hx => hlt x (by simp [hx]))
  by_cases hg : (good la && good lb && good lc) = true
  · have hg' := hg
    simp only [Bool.and_eq_true] at hg'
    obtain ⟨⟨ga, gb⟩, gc⟩ := hg'
    exact NatRing_good _ _ _ _ _ _ W (ka.num_of ga).1 (kb.num_of gb).1 (kc.num_of gc).1 (ka.num_of ga).2 (kb.num_of gb).2 (kc.num_of gc).2
  · exact NatRing_bad _ _ _ _ _ _ W ka kb kc (by simpa using hg)

set_option maxRecDepth 100000 in
/-- the given statement -/
theorem NatRing_holds : Rows.NatRingSaid :=
  OpenClaim.holds_of_wide 4 Try.f4 rfl rfl rfl rfl rfl rfl rfl ⟨rfl, rfl, rfl, rfl, rfl⟩ rfl rfl rfl rfl rfl (by kernel_rfl) Try.func4 (by kernel_rfl)
    (of_decide_eq_true (by kernel_rfl)) (by unfold Func.isWrapper; first | (rw [if_pos (by decide +kernel)]; kernel_rfl) | (rw [if_neg (by decide +kernel)]; exact ⟨rfl, rfl⟩))
    (fun os started H enc _ => law_lifted 4 Try.f4 Rows.natRingSpec Rows.natRingRow.domain rfl rfl rfl Try.func4 (by kernel_rfl) (by decide +kernel)
      (fun H ds h => by
        have h' : ds.length = 3 := h
        match ds, h' with
        | [_, _, _], _ => exact ⟨rfl, rfl, rfl⟩)
      (fun os _ H enc => ChangeSpec.witness6 (enc := enc) (C := Try.checked) false ⟨#[], #[.slice none 0 0, .slice none 0 0, .slice none 0 0], []⟩ 8 (by kernel_rfl) (by kernel_rfl) (by kernel_rfl) (by kernel_rfl))
      NatRing_walk os started H enc)
end Go.Proofs.Ytegfgjapmnokjaa
