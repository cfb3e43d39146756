/- What layer 1 tells of right limbs, small numbers, which is greater, and binary figures is as the reference has it. No condition. -/
import Derived.Test.YtegfgjapmnokjaaNatAid
import Derived.Test.YtegfgjapmnokjaaOpen
namespace Go.Proofs.Ytegfgjapmnokjaa
open Go.ChangeShapes Go.WideShapes Go.ChangeAt Go.RowKit

/-- 'given' at two numbers, in a world that was just grown by its row -/
theorem given_cases {w : World} {Aa Ab : Option Addr} {ma mb : Nat} (ca cb : Nat) (la lb : List Nat) (h_a : IsL w (.slice Aa ma ca) la) (h_b : IsL w (.slice Ab mb cb) lb) {r : Bool} (hr : (good la && good lb) = r) :
    Calls Try.prog 16 #[.slice (some ⟨w.heap.size, 0, none⟩) 2 2] (w.alloc (.cells #[.slice Aa ma ca, .slice Ab mb cb] 23)) fun e w' => e = .returned (.bool r) ∧ Below w.heap.size w w' := by
  have B : Below w.heap.size w (w.alloc (.cells #[.slice Aa ma ca, .slice Ab mb cb] 23)) := (Below.refl _ w).alloc (Nat.le_refl _) _
  have := given_any (some ⟨w.heap.size, 0, none⟩) 2 [(.slice Aa ma ca, la), (.slice Ab mb cb, lb)] (w.alloc (.cells #[.slice Aa ma ca, .slice Ab mb cb] 23)) (by simpa using Reads.fresh w 23 [.slice Aa ma ca, .slice Ab mb cb] 2 rfl) (by
      intro p hp
      simp only [List.mem_cons, List.not_mem_nil, or_false] at hp
      rcases hp with rfl | rfl
      · exact IsL.below h_a B
      · exact IsL.below h_b B) (by simp)
  refine this.mono ?_
  rintro e w' ⟨rfl, rfl⟩
  exact ⟨ret_bool (by rw [← hr]; simp), B⟩
theorem rfew_yes (v : Value) (l : List Nat) (w : World) (h : IsL w v l) (hl : l.length ≤ 20) : Calls Try.prog 9 #[v] w fun e w' => e = .returned (.bool true) ∧ w = w' := by
  have := rfew_any v l w h
  rwa [decide_eq_true hl] at this
theorem rfew_no (v : Value) (l : List Nat) (w : World) (h : IsL w v l) (hl : ¬ l.length ≤ 20) : Calls Try.prog 9 #[v] w fun e w' => e = .returned (.bool false) ∧ w = w' := by
  have := rfew_any v l w h
  rwa [decide_eq_false hl] at this
theorem smalls (v : Value) (n : Nat) (w : World) (h : IsN w v n) : ∃ (x : Nat) (p : Bool), (Calls Try.prog 17 #[v] w fun e w' => e = .returned (.tuple #[.int .u64 (x : Int), .bool p]) ∧ w = w') ∧
    (Calls Try.prog 18 #[v] w fun e w' => e = .returned (.tuple #[.int .u64 (x : Int), .bool p]) ∧ w = w') := by
  have h1 := small_any v _ w h
  have h2 := rsmall_any v _ w h
  by_cases hc : (limbs n).length ≤ 1
  · rw [if_pos hc] at h1 h2; exact ⟨_, _, h1, h2⟩
  · rw [if_neg hc] at h1 h2; exact ⟨0, _, h1, h2⟩

set_option maxHeartbeats 1000000 in
theorem NatTells_few (va vb : Value) (la lb : List Nat) (n : Nat) (w : World) (h_a : IsL w va la) (h_b : IsL w vb lb) (hg : ¬ (la.length ≤ 20 ∧ lb.length ≤ 20)) :
    Calls Try.prog 3 #[va, vb, .int .u64 (n : Int)] w fun e w' => e = .returned (.bool true) ∧ Below w.heap.size w w' := by
  obtain ⟨Aa, ma, ca, rfl⟩ := h_a.form
  obtain ⟨Ab, mb, cb, rfl⟩ := h_b.form
  by_cases ha : la.length ≤ 20
  · have hb : ¬ lb.length ≤ 20 := fun h => hg ⟨ha, h⟩
    clear hg
    go_enter Try.func3, Try.ntmps3
    go_wp2_with fail
    refine (rfew_yes _ la _ h_a ha).mono ?_
    rintro e w1 ⟨rfl, rfl⟩
    go_wp2_with fail
    refine (rfew_no _ lb _ h_b hb).mono ?_
    rintro e w1 ⟨rfl, rfl⟩
    go_wp2_with fail
    refine (alive01_any _).mono ?_
    rintro e w1 ⟨rfl, b1⟩
    go_wp2
    go_ret
    exact ⟨rfl, b1⟩
  · clear hg
    go_enter Try.func3, Try.ntmps3
    go_wp2_with fail
    refine (rfew_no _ la _ h_a ha).mono ?_
    rintro e w1 ⟨rfl, rfl⟩
    go_wp2_with fail
    refine (alive01_any _).mono ?_
    rintro e w1 ⟨rfl, b1⟩
    go_wp2
    go_ret
    exact ⟨rfl, b1⟩

set_option maxHeartbeats 2000000 in
theorem NatTells_bad (va vb : Value) (la lb : List Nat) (n : Nat) (w : World) (h_a : IsL w va la) (h_b : IsL w vb lb) (hn : n < W64) (ha : la.length ≤ 20) (hb : lb.length ≤ 20) (hg : (good la && good lb) = false) :
    Calls Try.prog 3 #[va, vb, .int .u64 (n : Int)] w fun e w' => e = .returned (.bool true) ∧ Below w.heap.size w w' := by
  obtain ⟨Aa, ma, ca, rfl⟩ := h_a.form
  obtain ⟨Ab, mb, cb, rfl⟩ := h_b.form
  go_enter Try.func3, Try.ntmps3
  go_wp2_with fail
  refine (rfew_yes _ la _ h_a ha).mono ?_
  rintro e w1 ⟨rfl, rfl⟩
  go_wp2_with fail
  refine (rfew_yes _ lb _ h_b hb).mono ?_
  rintro e w2 ⟨rfl, rfl⟩
  have R1 := right_any _ la _ h_a
  have R2 := rright_any _ la _ h_a
  generalize decide (la = [] ∨ lat la (la.length - 1) ≠ 0) = r at R1 R2
  have hrr : (r != r) = false := by cases r <;> rfl
  have R1 := Lib.hid R1
  have R2 := Lib.hid R2
  go_wp2_with fail
  refine R1.out.mono ?_
  rintro e w1 ⟨rfl, rfl⟩
  go_wp2_with fail
  refine R2.out.mono ?_
  rintro e w1 ⟨rfl, rfl⟩
  clear R1 R2
  go_wp2_with fail
  refine (of_any n hn _).mono ?_
  rintro e w3 ⟨v_o, rfl, h_o, b3⟩
  replace h_a := h_a.below b3
  replace h_b := h_b.below b3
  have B := b3
  go_wp2_with fail
  refine (rof_any n hn _).mono ?_
  rintro e w4 ⟨v_q, rfl, h_q, b4⟩
  replace h_a := h_a.below b4
  replace h_b := h_b.below b4
  replace h_o := h_o.below b4
  replace B := B.trans (b4.mono B.size)
  go_wp2_with fail
  refine (rsame_eq _ _ (n) (n) _ h_o h_q (rfl)).mono ?_
  rintro e w5 ⟨rfl, n5, hn5⟩
  have b5 : Below w4.heap.size w4 w5 := by rw [hn5]; exact below_drewN (Below.refl _ _) n5
  clear hn5
  replace h_a := h_a.below b5
  replace h_b := h_b.below b5
  replace h_o := h_o.below b5
  replace h_q := h_q.below b5
  replace B := B.trans (b5.mono B.size)
  have GV := given_cases _ _ la lb h_a h_b hg
  go_wp2_with fail
  refine GV.mono ?_
  rintro e u ⟨rfl, hu⟩
  replace B := B.trans (hu.mono B.size)
  go_wp2_with fail
  refine (alive01_any _).mono ?_
  rintro e u2 ⟨rfl, hu2⟩
  go_wp2
  go_ret
  exact ⟨rfl, B.trans (hu2.mono B.size)⟩

set_option maxRecDepth 100000 in
set_option maxHeartbeats 2000000 in
theorem NatTells_good (va vb : Value) (na nb : Nat) (n : Nat) (w : World) (h_a : IsN w va na) (h_b : IsN w vb nb) (hn : n < W64) (sa : Sz na 20) (sb : Sz nb 20) :
    Calls Try.prog 3 #[va, vb, .int .u64 (n : Int)] w fun e w' => e = .returned (.bool true) ∧ Below w.heap.size w w' := by
  obtain ⟨Aa, ma, ca, rfl⟩ := h_a.form
  obtain ⟨Ab, mb, cb, rfl⟩ := h_b.form
  have ha : (limbs na).length ≤ 20 := sa
  have hb : (limbs nb).length ≤ 20 := sb
  go_enter Try.func3, Try.ntmps3
  go_wp2_with fail
  refine (rfew_yes _ (limbs na) _ h_a ha).mono ?_
  rintro e w1 ⟨rfl, rfl⟩
  go_wp2_with fail
  refine (rfew_yes _ (limbs nb) _ h_b hb).mono ?_
  rintro e w2 ⟨rfl, rfl⟩
  have R1 := right_any _ (limbs na) _ h_a
  have R2 := rright_any _ (limbs na) _ h_a
  generalize decide (limbs na = [] ∨ lat (limbs na) ((limbs na).length - 1) ≠ 0) = r at R1 R2
  have hrr : (r != r) = false := by cases r <;> rfl
  have R1 := Lib.hid R1
  have R2 := Lib.hid R2
  go_wp2_with fail
  refine R1.out.mono ?_
  rintro e w1 ⟨rfl, rfl⟩
  go_wp2_with fail
  refine R2.out.mono ?_
  rintro e w1 ⟨rfl, rfl⟩
  clear R1 R2
  go_wp2_with fail
  refine (of_any n hn _).mono ?_
  rintro e w3 ⟨v_o, rfl, h_o, b3⟩
  replace h_a := h_a.below b3
  replace h_b := h_b.below b3
  have B := b3
  go_wp2_with fail
  refine (rof_any n hn _).mono ?_
  rintro e w4 ⟨v_q, rfl, h_q, b4⟩
  replace h_a := h_a.below b4
  replace h_b := h_b.below b4
  replace h_o := h_o.below b4
  replace B := B.trans (b4.mono B.size)
  go_wp2_with fail
  refine (rsame_eq _ _ (n) (n) _ h_o h_q (rfl)).mono ?_
  rintro e w5 ⟨rfl, n5, hn5⟩
  have b5 : Below w4.heap.size w4 w5 := by rw [hn5]; exact below_drewN (Below.refl _ _) n5
  clear hn5
  replace h_a := h_a.below b5
  replace h_b := h_b.below b5
  replace h_o := h_o.below b5
  replace h_q := h_q.below b5
  replace B := B.trans (b5.mono B.size)
  have GV := given_cases _ _ (limbs na) (limbs nb) h_a h_b (show (good (limbs na) && good (limbs nb)) = true by simp [h_a.good sa, h_b.good sb])
  go_wp2_with fail
  refine GV.mono ?_
  rintro e u ⟨rfl, hu⟩
  replace B := B.trans (hu.mono B.size)
  replace h_a := h_a.below hu
  replace h_b := h_b.below hu
  replace h_o := h_o.below hu
  replace h_q := h_q.below hu
  clear GV ha hb
  obtain ⟨x, p, S1, S2⟩ := smalls _ na u h_a
  have S1 := Lib.hid S1
  have S2 := Lib.hid S2
  go_wp2_with fail
  refine S1.out.mono ?_
  rintro e w1 ⟨rfl, rfl⟩
  go_wp2_with fail
  refine S2.out.mono ?_
  rintro e w1 ⟨rfl, rfl⟩
  clear S1 S2
  have hpp : (p == p) = true := by cases p <;> rfl
  go_wp2_with fail
  refine (alive01_any _).mono ?_
  rintro e w21 ⟨rfl, b21⟩
  replace h_a := h_a.below b21
  replace h_b := h_b.below b21
  replace h_o := h_o.below b21
  replace h_q := h_q.below b21
  replace B := B.trans (b21.mono B.size)
  go_wp2_with fail
  refine (cmp_any _ _ na nb _ h_a h_b).mono ?_
  rintro e w22 ⟨rfl, b22⟩
  replace h_a := h_a.below b22
  replace h_b := h_b.below b22
  replace h_o := h_o.below b22
  replace h_q := h_q.below b22
  replace B := B.trans (b22.mono B.size)
  go_wp2_with fail
  refine (rcmp_n _ _ na nb _ h_a h_b).mono ?_
  rintro e w23 ⟨rfl, n23, hn23⟩
  have b23 : Below w22.heap.size w22 w23 := by rw [hn23]; exact below_drewN (Below.refl _ _) n23
  clear hn23
  replace h_a := h_a.below b23
  replace h_b := h_b.below b23
  replace h_o := h_o.below b23
  replace h_q := h_q.below b23
  replace B := B.trans (b23.mono B.size)
  go_wp2_with fail
  refine (bits_any _ na _ h_a (sa.fin (by omega))).mono ?_
  rintro e w24 ⟨rfl, rfl⟩
  go_wp2_with fail
  refine (rbits_any _ na _ h_a (sa.fin (by omega))).mono ?_
  rintro e w25 ⟨rfl, rfl⟩
  go_wp2
  go_ret
  exact ⟨ret_bool (by simp), B⟩

theorem NatTells_walk : LawWalk 3 Try.f3 := by
  intro W base args H enc ds p hval hA hlt _
  rw [show Try.f3.params.toList = [23, 23, 24] from rfl] at hA
  obtain ⟨va, vb, vn, da, db, dn, pa, pb, pn, rfl, rfl, rfl, ha, hb, hn⟩ := trodAll_three hA
  obtain ⟨la, ka⟩ := open_limbs Try.underlying23 (hval 0 23 va rfl rfl) ha (fun x hx => hlt x (by simp [hx]))
  obtain ⟨lb, kb⟩ := open_limbs Try.underlying23 (hval 1 23 vb rfl rfl) hb (fun x hx => hlt x (by simp [hx]))
  obtain ⟨m, rfl, rfl, rfl, wm⟩ := open_int Try.underlying24 (hval 2 24 vn rfl rfl) hn
  obtain ⟨h0, h1⟩ := wf_u64 wm
  obtain ⟨n, rfl⟩ := Int.eq_ofNat_of_zero_le h0
  have hn : n < W64 := by omega
  by_cases hf : la.length ≤ 20 ∧ lb.length ≤ 20
  · by_cases hg : (good la && good lb) = true
    · have hg' := hg
      simp only [Bool.and_eq_true] at hg'
      exact NatTells_good _ _ _ _ n W (ka.num_of hg'.1).1 (kb.num_of hg'.2).1 hn (ka.num_of hg'.1).2 (kb.num_of hg'.2).2
    · exact NatTells_bad _ _ _ _ n W ka kb hn hf.1 hf.2 (by simpa using hg)
  · exact NatTells_few _ _ _ _ n W ka kb hf

set_option maxRecDepth 100000 in
/-- the given statement -/
theorem NatTells_holds : Rows.NatTellsSaid :=
  OpenClaim.holds_of_wide 3 Try.f3 rfl rfl rfl rfl rfl rfl rfl ⟨rfl, rfl, rfl, rfl, rfl⟩ rfl rfl rfl rfl rfl (by kernel_rfl) Try.func3 (by kernel_rfl)
    (of_decide_eq_true (by kernel_rfl)) (by unfold Func.isWrapper; first | (rw [if_pos (by decide +kernel)]; kernel_rfl) | (rw [if_neg (by decide +kernel)]; exact ⟨rfl, rfl⟩))
    (fun os started H enc _ => law_lifted 3 Try.f3 Rows.natTellsSpec Rows.natTellsRow.domain rfl rfl rfl Try.func3 (by kernel_rfl) (by decide +kernel)
      (fun H ds h => by
        have h' : ds.length = 3 := h
        match ds, h' with
        | [_, _, _], _ => exact ⟨rfl, rfl, rfl⟩)
      (fun os _ H enc => ChangeSpec.witness6 (enc := enc) (C := Try.checked) false ⟨#[], #[.slice none 0 0, .slice none 0 0, .int .u64 0], []⟩ 8 (by kernel_rfl) (by kernel_rfl) (by kernel_rfl) (by kernel_rfl))
      NatTells_walk os started H enc)
end Go.Proofs.Ytegfgjapmnokjaa
