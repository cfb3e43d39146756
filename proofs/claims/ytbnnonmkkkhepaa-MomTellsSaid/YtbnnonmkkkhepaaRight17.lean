/- The document's layer 17: which Moms are right. Printed by gen_right17.py. -/
import Derived.Test.YtbnnonmkkkhepaaNum17
import Derived.Test.YtbnnonmkkkhepaaMom6
import Derived.Deep.RegionHeld3
import Derived.Deep.RegionWith
namespace Go.Proofs.Ytbnnonmkkkhepaa
open Go.RowKit
attribute [local go_sem ↓] Go.wp_at_zero Go.wp_at_succ

set_option maxHeartbeats 4000000 in
theorem right17_any (lr mu wd f : Int) (nest : Bool) (w : World) :
    Calls Try.prog 13 #[.agg #[.int .i64 lr, .int .i64 mu, .int .i64 wd, .bool nest], .int .i64 f] w fun x w' => x = .returned (.bool (rightM lr mu wd f)) ∧ Below w.heap.size w w' := by
  obtain ⟨W0, hW, hR, hB⟩ := box1 w 23 #[.int .i64 lr, .int .i64 mu, .int .i64 wd, .bool nest]
  obtain ⟨g, hg⟩ : ∃ g, g = w.heap.size := ⟨_, rfl⟩
  have hW' := Lib.hid (And.intro hW hg)
  rw [← hg] at hR
  have hgw : w.heap.size ≤ g := by omega
  clear hW hg
  have hM := hR
  obtain ⟨c1_hM_0, c1_hM_1, c1_hM_2, c1_hM_3⟩ := hM.cells4
  have HB := Lib.hid hB
  have HB2 := Lib.hid ((Below.refl w.heap.size w).alloc (Nat.le_refl _) (.cells #[.int .i64 lr, .int .i64 mu, .int .i64 wd, .bool nest] 23))
  by_cases h0 : 0 ≤ f
  · by_cases h1 : f ≤ 40
    · obtain ⟨n, rfl⟩ := Int.eq_ofNat_of_zero_le h0
      have hn : n ≤ 40 := by omega
      have hO := fun w => one17_any n hn w
      have hR : rightM lr mu wd n = (decide (0 ≤ lr) && (decide (0 ≤ mu) && (decide (mu < ((2 ^ n : Nat) : Int)) && (decide (0 ≤ wd) && decide (wd ≤ ((2 ^ n : Nat) : Int)))))) := by
        unfold rightM
        rw [show (2 : Int) ^ (n : Int).toNat = ((2 ^ n : Nat) : Int) from by simp]
        generalize ((2 ^ n : Nat) : Int) = one
        rw [Bool.eq_iff_iff]; simp only [decide_eq_true_eq, Bool.and_eq_true]; omega
      rw [hR]
      clear hR
      generalize ((2 ^ n : Nat) : Int) = one at *
      have b0 : decide (lr < 0) = !decide (0 ≤ lr) := by rw [Bool.eq_iff_iff]; simp
      clear h0 h1
      cases b1 : decide (0 ≤ lr)
      · rw [b1] at b0
        go_enter Try.func13, Try.ntmps13
        go_wp2
        go_ret
        exact ⟨rfl, HB2.out⟩
      · rw [b1] at b0
        cases b2 : decide (0 ≤ mu)
        · go_enter Try.func13, Try.ntmps13
          go_upto_region 3 with fail
          rw [← hW'.out.1, ← hW'.out.2]
          have mb2 : ¬ (0 ≤ mu) := of_decide_eq_false b2
          first
            | (go_region_with (go_at_call 26; refine (hO _).mono ?_; rintro e w' ⟨rfl, rfl⟩))
            | fail
          all_goals
            go_wp2
            go_ret
            exact ⟨rfl, HB.out.drew⟩
        · cases b3 : decide (mu < one)
          · go_enter Try.func13, Try.ntmps13
            go_upto_region 3 with fail
            rw [← hW'.out.1, ← hW'.out.2]
            have mb2 := of_decide_eq_true b2
            have mb3 : ¬ (mu < one) := of_decide_eq_false b3
            first
              | (go_region_with (go_at_call 26; refine (hO _).mono ?_; rintro e w' ⟨rfl, rfl⟩))
              | fail
            all_goals
              go_wp2
              go_ret
              exact ⟨rfl, HB.out.drew⟩
          · cases b4 : decide (0 ≤ wd)
            · go_enter Try.func13, Try.ntmps13
              go_upto_region 3 with fail
              rw [← hW'.out.1, ← hW'.out.2]
              have mb2 := of_decide_eq_true b2
              have mb3 := of_decide_eq_true b3
              have mb4 : ¬ (0 ≤ wd) := of_decide_eq_false b4
              first
                | (go_region_with (go_at_call 26; refine (hO _).mono ?_; rintro e w' ⟨rfl, rfl⟩))
                | fail
              all_goals
                go_wp2
                go_ret
                exact ⟨rfl, HB.out.drew⟩
            · cases b5 : decide (wd ≤ one)
              · go_enter Try.func13, Try.ntmps13
                go_upto_region 3 with fail
                rw [← hW'.out.1, ← hW'.out.2]
                have mb2 := of_decide_eq_true b2
                have mb3 := of_decide_eq_true b3
                have mb4 := of_decide_eq_true b4
                have mb5 : ¬ (wd ≤ one) := of_decide_eq_false b5
                go_region_held3 (fun w' => w'.cell? ⟨g, 0, none⟩ = some (.int .i64 lr) ∧ w'.cell? ⟨g, 1, none⟩ = some (.int .i64 mu) ∧ w'.cell? ⟨g, 2, none⟩ = some (.int .i64 wd) ∧ w'.cell? ⟨g, 3, none⟩ = some (.bool nest))
                  (first | exact hM.cells4 | exact ⟨c1_hM_0, c1_hM_1, c1_hM_2, c1_hM_3⟩)
                  (first
                    | (go_at_call 26; (with_reducible refine (hO _).mono ?_); rintro e w' ⟨rfl, rfl⟩))
                all_goals
                  go_wp2
                  go_ret
                  exact ⟨rfl, HB.out.drew⟩
              · go_enter Try.func13, Try.ntmps13
                go_upto_region 3 with fail
                rw [← hW'.out.1, ← hW'.out.2]
                have mb2 := of_decide_eq_true b2
                have mb3 := of_decide_eq_true b3
                have mb4 := of_decide_eq_true b4
                have mb5 := of_decide_eq_true b5
                go_region_held3 (fun w' => w'.cell? ⟨g, 0, none⟩ = some (.int .i64 lr) ∧ w'.cell? ⟨g, 1, none⟩ = some (.int .i64 mu) ∧ w'.cell? ⟨g, 2, none⟩ = some (.int .i64 wd) ∧ w'.cell? ⟨g, 3, none⟩ = some (.bool nest))
                  (first | exact hM.cells4 | exact ⟨c1_hM_0, c1_hM_1, c1_hM_2, c1_hM_3⟩)
                  (first
                    | (go_at_call 26; (with_reducible refine (hO _).mono ?_); rintro e w' ⟨rfl, rfl⟩))
                all_goals
                  go_wp2
                  go_ret
                  exact ⟨rfl, HB.out.drew⟩
    · rw [show rightM lr mu wd f = false from decide_eq_false (fun h => h1 h.2.1)]
      go_enter Try.func13, Try.ntmps13
      go_wp2
      go_ret
      exact ⟨rfl, HB2.out⟩
  · rw [show rightM lr mu wd f = false from decide_eq_false (fun h => h0 h.1)]
    go_enter Try.func13, Try.ntmps13
    go_wp2
    go_ret
    exact ⟨rfl, HB2.out⟩
end Go.Proofs.Ytbnnonmkkkhepaa
