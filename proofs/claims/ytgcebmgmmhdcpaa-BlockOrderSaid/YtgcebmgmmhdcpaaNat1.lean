/- Walks of small functions on limbs. -/
import Derived.Test.YtgcebmgmmhdcpaaBase
import Derived.Deep.QuietTactic
import Derived.BigQuiet
import Derived.Outline
import Derived.LoopTactic
namespace Go.Proofs.Ytgcebmgmmhdcpaa
open Go.RowKit

set_option maxHeartbeats 400000 in
theorem bare_any (v : Value) (l : List Nat) (w : World) (h : IsL w v l) :
    Calls Try.prog 51 #[v] w fun e w' => ∃ v', e = .returned v' ∧ IsN w v' (num l) ∧ w = w' := by
  obtain ⟨A, c, rfl, hlc, hc, hbd, hr⟩ := h
  go_enter Try.func51, Try.ntmps51
  go_wp2
  go_loop [0] (fun a => ∃ k : Nat, k ≤ l.length ∧ a = .slice A k c ∧ Hid (num (l.take k) = num l)) (fun a => match a with | .slice _ k _ => k | _ => 0)
  case atStart => exact ⟨l.length, Nat.le_refl _, rfl, by rw [List.take_length]; exact Lib.hid rfl⟩
  case round =>
    obtain ⟨k, hk, rfl, hn⟩ := hrel
    have hcell : 0 < k → ∃ ad, A = some ad ∧ w.cell? (ad.add (k - 1)) = some (.int .u64 ((lat l (k - 1) : Nat) : Int)) := fun h => by
      obtain ⟨ad, e, _, hx⟩ := us_cell hr (k := k - 1) (by omega)
      exact ⟨ad, e, hx⟩
    by_cases h0 : 0 < k
    · obtain ⟨ad, rfl, hx⟩ := hcell h0
      clear hcell
      by_cases hz : lat l (k - 1) = 0
      · rw [hz] at hx
        go_wp2
        refine ⟨⟨k - 1, by omega, rfl, ?_⟩, by dsimp only; omega⟩
        rw [Hid] at hn
        exact Lib.hid ((num_take_pred h0 hz).trans hn)
      · have hz' : (((lat l (k - 1) : Nat) : Int) == 0) = false := by simp; omega
        go_wp2
        go_ret
        refine ⟨_, rfl, ⟨some ad, c, ?_, ?_, hc, limbs_bd _, ?_⟩, rfl⟩
        all_goals rw [limbs_of_take hbd hn hk (.inr hz)]
        · simp [hk]
        · simp; omega
        · rw [List.length_take, Nat.min_eq_left hk]; exact hr.shorter hk
    · obtain rfl : k = 0 := by omega
      go_wp2
      go_ret
      have e : num l = 0 := by rw [← hn]; rfl
      refine ⟨_, rfl, ⟨A, c, ?_, ?_, hc, limbs_bd _, ?_⟩, rfl⟩
      all_goals rw [e, limbs_zero]
      · rfl
      · simp
      · exact Reads.none_

set_option maxHeartbeats 400000 in
theorem of_any (n : Nat) (hn : n < W64) (w : World) :
    Calls Try.prog 36 #[.int .u64 n] w fun e w' => ∃ v', e = .returned v' ∧ IsN w' v' n ∧ Below w.heap.size w w' := by
  go_enter Try.func36, Try.ntmps36
  go_wp2_with fail
  refine (bare_any _ [n] _ (IsL.fresh w _ [n] (Bd.cons hn Bd.nil) (by simp))).mono ?_
  rintro e w' ⟨v', rfl, hv, rfl⟩
  go_wp2
  go_ret
  exact ⟨_, rfl, by rwa [num_single] at hv, (Below.refl _ _).alloc (Nat.le_refl _) _⟩

theorem compare_int (a b : Int) (w : World) :
    Calls Try.prog 52 #[.int .i64 a, .int .i64 b] w fun e w' => e = .returned (.int .i64 (cmpI a b)) ∧ w = w' := by
  rcases Int.lt_trichotomy a b with h | rfl | h
  · go_enter Try.func52, Try.ntmps52
    go_wp2
    go_ret
    exact ⟨ret_int (by simp [cmpI, h]), rfl⟩
  · go_enter Try.func52, Try.ntmps52
    go_wp2
    go_ret
    exact ⟨ret_int (by simp [cmpI]), rfl⟩
  · have h' : ¬ a < b := by omega
    go_enter Try.func52, Try.ntmps52
    go_wp2
    go_ret
    exact ⟨ret_int (by simp [cmpI, h, h']), rfl⟩
theorem compare_u64 (a b : Int) (w : World) :
    Calls Try.prog 54 #[.int .u64 a, .int .u64 b] w fun e w' => e = .returned (.int .i64 (cmpI a b)) ∧ w = w' := by
  rcases Int.lt_trichotomy a b with h | rfl | h
  · go_enter Try.func54, Try.ntmps54
    go_wp2
    go_ret
    exact ⟨ret_int (by simp [cmpI, h]), rfl⟩
  · go_enter Try.func54, Try.ntmps54
    go_wp2
    go_ret
    exact ⟨ret_int (by simp [cmpI]), rfl⟩
  · have h' : ¬ a < b := by omega
    go_enter Try.func54, Try.ntmps54
    go_wp2
    go_ret
    exact ⟨ret_int (by simp [cmpI, h, h']), rfl⟩
end Go.Proofs.Ytgcebmgmmhdcpaa
