/- Walks of small functions on limbs. -/
import Derived.Test.YtegfgjapmnokjaaBase
import Derived.Deep.QuietTactic
import Derived.BigQuiet
import Derived.Outline
import Derived.LoopTactic
namespace Go.Proofs.Ytegfgjapmnokjaa
open Go.RowKit

set_option maxHeartbeats 400000 in
theorem right_any (v : Value) (l : List Nat) (w : World) (h : IsL w v l) :
    Calls Try.prog 11 #[v] w fun e w' => e = .returned (.bool (decide (l = [] ∨ lat l (l.length - 1) ≠ 0))) ∧ w = w' := by
  obtain ⟨A, c, rfl, hlc, hc, hbd, hr⟩ := h
  by_cases hl : l = []
  · subst hl
    go_enter Try.func11, Try.ntmps11
    go_wp2
    go_ret
    exact ⟨rfl, rfl⟩
  · have h0 : 0 < l.length := List.length_pos_iff.2 hl
    obtain ⟨ad, rfl, hb, hcell⟩ := us_cell hr (k := l.length - 1) (by omega)
    go_enter Try.func11, Try.ntmps11
    go_wp2
    go_ret
    have e : ((l.length : Int) == 0) = false := by simp [hl]
    exact ⟨ret_bool (by rw [e, nat_ne0]; simp [hl]), rfl⟩

set_option maxHeartbeats 400000 in
theorem bare_any (v : Value) (l : List Nat) (w : World) (h : IsL w v l) :
    Calls Try.prog 29 #[v] w fun e w' => ∃ v', e = .returned v' ∧ IsN w v' (num l) ∧ w = w' := by
  obtain ⟨A, c, rfl, hlc, hc, hbd, hr⟩ := h
  go_enter Try.func29, Try.ntmps29
  go_wp2
  go_loop [0] (fun a => ∃ k : Nat, k ≤ l.length ∧ a = .slice A k c ∧ Hid (num (l.take k) = num l)) (fun a => match a with | .slice _ k _ => k | _ => 0)
  case atStart => exact ⟨l.length, Nat.le_refl _, rfl, by rw [List.take_length]; exact Lib.hid rfl⟩
  case round =>
    obtain ⟨k, hk, rfl, hn⟩ := hrel
    have hcell : 0 < k → ∃ ad, A = some ad ∧ w.cell? (ad.add (k - 1)) = some (.int .u64 ((lat l (k - 1) : Nat) : Int)) := fun h => by
      obtain ⟨ad, e, _, hx⟩ := us_cell hr (k := k - 1) (by omega)
      exact ⟨ad, e, hx⟩
    by_cases h0 : 0 < k
    · obtain ⟨ad, rfl, hx⟩ := hcell h0
      clear hcell
      by_cases hz : lat l (k - 1) = 0
      · rw [hz] at hx
        go_wp2
        refine ⟨⟨k - 1, by omega, rfl, ?_⟩, by dsimp only; omega⟩
        rw [Hid] at hn
        exact Lib.hid ((num_take_pred h0 hz).trans hn)
      · have hz' : (((lat l (k - 1) : Nat) : Int) == 0) = false := by simp; omega
        go_wp2
        go_ret
        refine ⟨_, rfl, ⟨some ad, c, ?_, ?_, hc, limbs_bd _, ?_⟩, rfl⟩
        all_goals rw [limbs_of_take hbd hn hk (.inr hz)]
        · simp [hk]
        · simp; omega
        · rw [List.length_take, Nat.min_eq_left hk]; exact hr.shorter hk
    · obtain rfl : k = 0 := by omega
      go_wp2
      go_ret
      have e : num l = 0 := by rw [← hn]; rfl
      refine ⟨_, rfl, ⟨A, c, ?_, ?_, hc, limbs_bd _, ?_⟩, rfl⟩
      all_goals rw [e, limbs_zero]
      · rfl
      · simp
      · exact Reads.none_

set_option maxHeartbeats 400000 in
theorem of_any (n : Nat) (hn : n < W64) (w : World) :
    Calls Try.prog 14 #[.int .u64 n] w fun e w' => ∃ v', e = .returned v' ∧ IsN w' v' n ∧ Below w.heap.size w w' := by
  go_enter Try.func14, Try.ntmps14
  go_wp2_with fail
  refine (bare_any _ [n] _ (IsL.fresh w _ [n] (Bd.cons hn Bd.nil) (by simp))).mono ?_
  rintro e w' ⟨v', rfl, hv, rfl⟩
  go_wp2
  go_ret
  exact ⟨_, rfl, by rwa [num_single] at hv, (Below.refl _ _).alloc (Nat.le_refl _) _⟩

set_option maxHeartbeats 400000 in
theorem small_any (v : Value) (l : List Nat) (w : World) (h : IsL w v l) :
    Calls Try.prog 17 #[v] w fun e w' => e = .returned (if l.length ≤ 1 then .tuple #[.int .u64 (lat l 0 : Nat), .bool true] else .tuple #[.int .u64 0, .bool false]) ∧ w = w' := by
  obtain ⟨A, c, rfl, hlc, hc, hbd, hr⟩ := h
  rcases l with _ | ⟨x, _ | ⟨y, r⟩⟩
  · go_enter Try.func17, Try.ntmps17
    go_wp2
    go_ret2
    exact ⟨rfl, rfl⟩
  · obtain ⟨ad, rfl, hb, hcell⟩ := us_cell0 hr (by simp)
    go_enter Try.func17, Try.ntmps17
    go_wp2
    go_ret2
    exact ⟨rfl, rfl⟩
  · have e0 : (((r.length + 1 + 1 : Nat) : Int) == 0) = false := by rw [beq_eq_false_iff_ne]; omega
    have e1 : (((r.length + 1 + 1 : Nat) : Int) == 1) = false := by rw [beq_eq_false_iff_ne]; omega
    go_enter Try.func17, Try.ntmps17
    go_wp2
    go_ret2
    exact ⟨by simp, rfl⟩

theorem compare_int (a b : Int) (w : World) :
    Calls Try.prog 31 #[.int .i64 a, .int .i64 b] w fun e w' => e = .returned (.int .i64 (cmpI a b)) ∧ w = w' := by
  rcases Int.lt_trichotomy a b with h | rfl | h
  · go_enter Try.func31, Try.ntmps31
    go_wp2
    go_ret
    exact ⟨ret_int (by simp [cmpI, h]), rfl⟩
  · go_enter Try.func31, Try.ntmps31
    go_wp2
    go_ret
    exact ⟨ret_int (by simp [cmpI]), rfl⟩
  · have h' : ¬ a < b := by omega
    go_enter Try.func31, Try.ntmps31
    go_wp2
    go_ret
    exact ⟨ret_int (by simp [cmpI, h, h']), rfl⟩
theorem compare_u64 (a b : Int) (w : World) :
    Calls Try.prog 33 #[.int .u64 a, .int .u64 b] w fun e w' => e = .returned (.int .i64 (cmpI a b)) ∧ w = w' := by
  rcases Int.lt_trichotomy a b with h | rfl | h
  · go_enter Try.func33, Try.ntmps33
    go_wp2
    go_ret
    exact ⟨ret_int (by simp [cmpI, h]), rfl⟩
  · go_enter Try.func33, Try.ntmps33
    go_wp2
    go_ret
    exact ⟨ret_int (by simp [cmpI]), rfl⟩
  · have h' : ¬ a < b := by omega
    go_enter Try.func33, Try.ntmps33
    go_wp2
    go_ret
    exact ⟨ret_int (by simp [cmpI, h, h']), rfl⟩
end Go.Proofs.Ytegfgjapmnokjaa
