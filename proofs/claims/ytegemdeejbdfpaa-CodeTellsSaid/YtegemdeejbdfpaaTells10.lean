/- The code of any share, and what a code stands for, are as the document says. No conditions: every input. -/
import Derived.Test.YtegemdeejbdfpaaLaw10
import Derived.Test.YtegemdeejbdfpaaRNear10
namespace Go.Proofs.Ytegemdeejbdfpaa
open Go.ChangeShapes Go.WideShapes Go.ChangeAt Go.RowKit
attribute [local go_sem ↓] Go.wp_at_zero Go.wp_at_succ
set_option maxHeartbeats 1000000 in
theorem rnear_no (k num d : Int) (w : World) (hd : I64 d) (hs : share k num d = false) :
    Calls Try.prog 9 #[.int .i64 k, .int .i64 num, .int .i64 d] w fun e w' => e = .returned (.tuple #[.int .u8 0, .int .i64 1]) ∧ Below w.heap.size w w' := by
  have hSh := fun w => rShare_any k num d hd w
  rw [hs] at hSh
  clear hs hd
  have hB := Below.refl w.heap.size w
  go_enter Try.func9, Try.ntmps9
  go_wp2_with fail
  refine (hSh _).mono ?_
  rintro e w1 ⟨rfl, rfl⟩
  go_wp2
  go_ret2
  exact ⟨rfl, hB⟩
theorem rnear_any (k num d : Int) (w : World) (hi : I64 num) (hd : I64 d) :
    Calls Try.prog 9 #[.int .i64 k, .int .i64 num, .int .i64 d] w fun e w' => e = .returned (.tuple #[.int .u8 (codeOf k num d : Nat), .int .i64 (codeE k num d)]) ∧ Below w.heap.size w w' := by
  cases hs : share k num d
  · rw [show codeOf k num d = 0 from by unfold codeOf; rw [hs]; rfl, show codeE k num d = 1 from by unfold codeE; rw [hs]; rfl]
    exact rnear_no k num d w hd hs
  · obtain ⟨n, rfl, hn⟩ := kind_nat ((share_iff _ _ _).1 hs).1
    rw [codeE_of hs]
    exact rnear_ok n hn num d w hi hd hs
set_option maxHeartbeats 1000000 in
theorem rnumk_any (k : Int) (c : Nat) (hc : c < 256) (w : World) :
    Calls Try.prog 11 #[.int .i64 k, .int .u8 c] w fun e w' => e = .returned (.tuple #[.int .i64 (numOf k c), .int .i64 (bke k)]) ∧ Below w.heap.size w w' := by
  by_cases hk : 0 ≤ k ∧ k ≤ 3
  · obtain ⟨n, rfl, hn⟩ := kind_nat hk
    unfold numOf
    rw [show bke n = 0 from if_pos hk, bkz_nat n hn]
    exact rnum_any n hn c hc w
  · have hB0 := fun w => rbook_any k w
    have e0 : numOf k c = 0 := by
      have : bkz k = [] := by unfold bkz; rw [if_neg (by omega), if_neg (by omega), if_neg (by omega), if_neg (by omega)]
      unfold numOf; rw [this]; rfl
    rw [e0]
    rw [show bke k = 1 from if_neg hk] at *
    generalize bkz k = l at *
    clear hk e0
    go_enter Try.func11, Try.ntmps11
    go_wp2_with fail
    refine (hB0 _).mono ?_
    rintro e w1 ⟨v1, rfl, hL, b1⟩
    obtain ⟨A1, C1, rfl, _, _⟩ := hL.form
    clear hL
    go_wp2
    go_ret2
    exact ⟨rfl, b1⟩
set_option maxHeartbeats 4000000 in
theorem CodeTells_all (k num d : Int) (c : Nat) (hc : c < 256) (w : World) (hi : I64 num) (hd : I64 d) :
    Calls Try.prog 3 #[.int .i64 k, .agg #[.int .i64 num, .int .i64 d], .int .u8 c] w fun e w' => e = .returned (.bool true) ∧ Below w.heap.size w w' := by
  have hL := fun w => alive10_any w
  have h1 := fun w => near_any k num d w hi hd
  have h2 := fun w => rnear_any k num d w hi hd
  have h3 := fun w => num_any k c hc w
  have h4 := fun w => rnumk_any k c hc w
  generalize codeOf k num d = c1 at *
  generalize codeE k num d = e1 at *
  generalize numOf k c = n1 at *
  generalize bke k = e2 at *
  clear hi hd
  obtain ⟨W0, hW, hR, hB⟩ := box1 w 22 #[.int .i64 num, .int .i64 d]
  obtain ⟨g, hg⟩ : ∃ g, g = w.heap.size := ⟨_, rfl⟩
  have hW' := Lib.hid (And.intro hW hg)
  rw [← hg] at hR
  have hgw : w.heap.size ≤ g := by omega
  clear hW hg
  have hA := hR
  obtain ⟨c1_hA_0, c1_hA_1⟩ := hA.cells2
  go_enter Try.func3, Try.ntmps3
  go_wp2_with fail
  rw [← hW'.out.1, ← hW'.out.2]
  refine (h1 _).mono ?_
  rintro e w1 ⟨rfl, b1⟩
  replace hA := hA.below b1 hA.lt
  replace hB := hB.trans (b1.mono hB.size)
  clear c1_hA_0 c1_hA_1
  obtain ⟨c2_hA_0, c2_hA_1⟩ := hA.cells2
  go_wp2_with fail
  refine (h2 _).mono ?_
  rintro e w2 ⟨rfl, b2⟩
  replace hA := hA.below b2 hA.lt
  replace hB := hB.trans (b2.mono hB.size)
  clear c2_hA_0 c2_hA_1
  obtain ⟨c3_hA_0, c3_hA_1⟩ := hA.cells2
  go_wp2_with fail
  refine (h3 _).mono ?_
  rintro e w3 ⟨rfl, b3⟩
  replace hB := hB.trans (b3.mono hB.size)
  clear c3_hA_0 c3_hA_1
  go_wp2_with fail
  refine (h4 _).mono ?_
  rintro e w4 ⟨rfl, b4⟩
  replace hB := hB.trans (b4.mono hB.size)
  go_wp2_with fail
  refine (hL _).mono ?_
  rintro e w5 ⟨rfl, b5⟩
  replace hB := hB.trans (b5.mono hB.size)
  go_wp2
  go_ret
  exact ⟨rfl, hB⟩
set_option maxRecDepth 100000 in
theorem CodeTells_walk : LawWalk 3 Try.f3 := by
  intro W base args H enc ds p hval hA hlt _
  rw [show Try.f3.params.toList = [3, 22, 5] from rfl] at hA
  obtain ⟨vk, va, vm, dk, da, dm, pk, pa, pm, rfl, rfl, rfl, hk, ha, hm⟩ := trodAll_three hA
  obtain ⟨k, rfl, rfl, rfl, wk⟩ := open_int Try.underlying3 (hval 0 3 vk rfl rfl) hk
  obtain ⟨a, b, rfl, i1, i2⟩ := open_arr2 Try.underlying22 Try.underlying2 (by kernel_rfl) (by kernel_rfl) (hval 1 22 va rfl rfl) ha
  obtain ⟨m, rfl, rfl, rfl, wm⟩ := open_int Try.underlying5 (hval 2 5 vm rfl rfl) hm
  obtain ⟨m0, m1⟩ := wf_U8 wm
  obtain ⟨m, rfl⟩ := Int.eq_ofNat_of_zero_le m0
  exact CodeTells_all k a b m (by omega) W i1 i2
set_option maxRecDepth 100000 in
/-- the given statement -/
theorem CodeTells_holds : Rows.CodeTellsSaid :=
  OpenClaim.holds_of_wide 3 Try.f3 rfl rfl rfl rfl rfl rfl rfl ⟨rfl, rfl, rfl, rfl, rfl⟩ rfl rfl rfl rfl rfl (by kernel_rfl) Try.func3 (by kernel_rfl)
    (of_decide_eq_true (by kernel_rfl)) (by unfold Func.isWrapper; first | (rw [if_pos (by decide +kernel)]; kernel_rfl) | (rw [if_neg (by decide +kernel)]; exact ⟨rfl, rfl⟩))
    (fun os started H enc _ => law_lifted 3 Try.f3 Rows.codeTellsSpec Rows.codeTellsRow.domain rfl rfl rfl Try.func3 (by kernel_rfl) (by decide +kernel)
      (fun H ds h => by
        have h' : ds.length = 3 := h
        match ds, h' with
        | [_, _, _], _ => exact ⟨rfl, rfl, rfl⟩)
      (fun os _ H enc => ChangeSpec.witness6 (enc := enc) (C := Try.checked) false ⟨#[], #[.int .i64 0, .agg #[.int .i64 0, .int .i64 0], .int .u8 0], []⟩ 8 (by kernel_rfl) (by kernel_rfl) (by kernel_rfl) (by kernel_rfl))
      CodeTells_walk os started H enc)
end Go.Proofs.Ytegemdeejbdfpaa
