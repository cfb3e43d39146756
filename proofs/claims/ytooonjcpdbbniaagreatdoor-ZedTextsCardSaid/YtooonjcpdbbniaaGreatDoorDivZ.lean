/- Package div: limbs without noughts at the end; slices.Clone over limbs. Printed by gen_divz.py. -/
import Derived.Test.YtooonjcpdbbniaaGreatDoorApp
import Derived.Lib.SliceRun
namespace Go.Proofs.YtooonjcpdbbniaaGreatDoor
open Go.RowKit
set_option maxHeartbeats 400000 in
theorem dbare_any (v : Value) (l : List Nat) (w : World) (h : IsL w v l) :
    Calls Tryz.prog 75 #[v] w fun e w' => ∃ v', e = .returned v' ∧ IsN w v' (num l) ∧ (∀ g, v'.ownBlock = some g → v.ownBlock = some g) ∧ w = w' := by
  obtain ⟨A, c, rfl, hlc, hc, hbd, hr⟩ := h
  go_enter Tryz.func75, Tryz.ntmps75
  go_wp2
  go_loop [0] (fun a => ∃ k : Nat, k ≤ l.length ∧ a = .slice A k c ∧ Hid (num (l.take k) = num l)) (fun a => match a with | .slice _ k _ => k | _ => 0)
  case atStart => exact ⟨l.length, Nat.le_refl _, rfl, by rw [List.take_length]; exact Lib.hid rfl⟩
  case round =>
    obtain ⟨k, hk, rfl, hn⟩ := hrel
    have hcell : 0 < k → ∃ ad, A = some ad ∧ w.cell? (ad.add (k - 1)) = some (.int .u64 ((lat l (k - 1) : Nat) : Int)) := fun h => by
      obtain ⟨ad, e, _, hx⟩ := us_cell hr (k := k - 1) (by omega)
      exact ⟨ad, e, hx⟩
    by_cases h0 : 0 < k
    · obtain ⟨ad, rfl, hx⟩ := hcell h0
      clear hcell
      by_cases hz : lat l (k - 1) = 0
      · rw [hz] at hx
        go_wp2
        refine ⟨⟨k - 1, by omega, rfl, ?_⟩, by dsimp only; omega⟩
        rw [Hid] at hn
        exact Lib.hid ((num_take_pred h0 hz).trans hn)
      · have hz' : (((lat l (k - 1) : Nat) : Int) == 0) = false := by simp; omega
        go_wp2
        go_ret
        refine ⟨_, rfl, ⟨some ad, c, ?_, ?_, hc, limbs_bd _, ?_⟩, fun _ e => e, rfl⟩
        all_goals rw [limbs_of_take hbd hn hk (.inr hz)]
        · simp [hk]
        · simp; omega
        · rw [List.length_take, Nat.min_eq_left hk]; exact hr.shorter hk
    · obtain rfl : k = 0 := by omega
      go_wp2
      go_ret
      have e : num l = 0 := by rw [← hn]; rfl
      refine ⟨_, rfl, ⟨A, c, ?_, ?_, hc, limbs_bd _, ?_⟩, fun _ e => by have e' : (Value.slice A 0 c).ownBlock = _ := e; cases A <;> exact e', rfl⟩
      all_goals rw [e, limbs_zero]
      · rfl
      · simp
      · exact Reads.none_

set_option maxRecDepth 100000 in
set_option maxHeartbeats 1000000 in
theorem clone_nat (v : Value) (l : List Nat) (w : World) (h : IsL w v l) (hl : l.length ≤ 17592186044416) :
    Calls Tryz.prog 68 #[v] w fun e w' => ∃ v', e = .returned v' ∧ IsL w' v' l ∧ Fresh w.heap.size v' ∧ Below w.heap.size w w' := by
  obtain ⟨i0, hi, hz0, hz1, hz2⟩ := info_parts info_u64
  have q22 : ∀ (w : World) (a : Option Addr) (n c n' c' : Nat), (binOp .eql 23 (.slice a n c) (.slice none n' c')).run Tryz.prog w = .ok (.bool a.isNone) w := fun w a n c n' c' => Lib.run_eql_slice_nil w _ _ a n c n' c' Tryz.underlying23
  obtain ⟨A, c, rfl, h1, h2, hbd, hr⟩ := h
  rcases A with _ | ad
  · have h0 : l.length = 0 := by
      rcases Nat.eq_zero_or_pos l.length with h | h
      · exact h
      · obtain ⟨ad, e, _⟩ := hr.2 h; cases e
    have hl : l = [] := List.eq_nil_of_length_eq_zero h0
    subst hl
    go_enter Tryz.func68, Tryz.ntmps68
    go_wp2
    go_ret
    exact ⟨_, rfl, IsL.nil w, fun g e => by simp [Value.ownBlock] at e, Below.refl _ _⟩
  · have hown := World.ownsRow_lit w #[] 0 (base := w.heap.size) (e := 44) (size := 1) (Nat.le_refl _) (by unfold maxLen; omega) rfl
    go_enter Tryz.func68, Tryz.ntmps68
    go_wp2_with (at_builtin; refine wpList_append_any _ rfl (.tmp 5) (.tmp 6) _ rfl w.heap.size 44 i0 _ 1 8 Tryz.underlying23 hi hz0 hz1 hz2 rfl (by omega) _ 0 [] rfl hown w.heap.size (some ad) l.length c (us l) rfl (hr.alloc (Nat.le_refl _) _) (us_one _) (by unfold maxLen; omega) (by omega) (by simp) ?_; intro v' w' hown' hgrow hat)
    go_ret
    rw [Nat.zero_add, List.nil_append] at hown'
    exact ⟨_, rfl, IsL.of_own hown' hbd, Fresh.of_own hown', ((Below.refl _ w).alloc (Nat.le_refl _) _).grown hgrow (by simp) (fun g e => by cases e; exact Nat.le_refl _)⟩
end Go.Proofs.YtooonjcpdbbniaaGreatDoor
