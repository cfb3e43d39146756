/- sort.Search, asked with the closure of code.Near. -/
import Derived.Test.YtgcebmgmmhdcpaaPZed
import Derived.Test.YtgcebmgmmhdcpaaInts
namespace Go.Proofs.Ytgcebmgmmhdcpaa
open Go.RowKit
attribute [local go_sem ↓] Go.wp_at_zero Go.wp_at_succ
set_option maxHeartbeats 1000000 in
theorem search_any (n : Nat) (hn : n ≤ 1000) (p : Nat → Bool) (a1 a2 a3 : Addr) (w : World) (hmono : ∀ i j, i ≤ j → j < n → p i = true → p j = true)
    (hf : ∀ i w', i < n → Below w.heap.size w w' → Calls Try.prog 28 #[.int .i64 i, .pointer (some a1), .pointer (some a2), .pointer (some a3)] w' fun e w'' => e = .returned (.bool (p i)) ∧ Below w'.heap.size w' w'') :
    Calls Try.prog 30 #[.int .i64 n, .func (.func 28) #[] #[.pointer (some a1), .pointer (some a2), .pointer (some a3)]] w fun e w' =>
      ∃ k : Nat, k ≤ n ∧ e = .returned (.int .i64 k) ∧ (∀ i, i < k → p i = false) ∧ (∀ i, k ≤ i → i < n → p i = true) ∧ Below w.heap.size w w' := by
  have HM := Lib.hid hmono
  clear hmono
  go_enter Try.func30, Try.ntmps30
  go_wp2
  go_loopw [5, 6] (fun i j wr => ∃ a b : Nat, i = .int .i64 a ∧ j = .int .i64 b ∧ a ≤ b ∧ b ≤ n ∧ Hid ((∀ i, i < a → p i = false) ∧ (∀ i, b ≤ i → i < n → p i = true)) ∧ Below w.heap.size w wr) (fun i j _ => (intOf j).toNat - (intOf i).toNat)
  case atStart => exact ⟨0, n, rfl, rfl, by omega, by omega, Lib.hid ⟨fun i h => by omega, fun i h1 h2 => by omega⟩, Below.refl _ _⟩
  case round =>
    obtain ⟨a, b, rfl, rfl, hab, hb, HH, bl⟩ := hrel
    by_cases hlt : a < b
    · obtain ⟨m, hm⟩ : ∃ m : Nat, m = (a + b) / 2 := ⟨_, rfl⟩
      have hm' : ((a : Int) + (b : Int)) / 2 = (m : Int) := by omega
      have hma : a ≤ m := by omega
      have hmb : m < b := by omega
      have HQ := Lib.hid hm'
      clear hm hm'
      go_wp2_with fail
      rw [HQ.out]
      refine (hf m _ (by omega) bl).mono ?_
      rintro e w1 ⟨rfl, b1⟩
      cases hp : p m
      · have H1 : ∀ i, i < m + 1 → p i = false := fun i hi => by
          cases h : p i
          · rfl
          · have h2 := HM.out i m (by omega) (by omega) h
            rw [hp] at h2; cases h2
        have H2 := Lib.hid (And.intro H1 HH.out.2)
        clear H1
        clear hp
        have hw : IntKind.i64.wrap ((m : Int) + 1) = ((m + 1 : Nat) : Int) := by rw [IntKind.wrap_i64]; omega
        go_wp2
        go_roundw
        case rel => exact ⟨m + 1, b, by go_num, rfl, by omega, by omega, H2, bl.trans (b1.mono bl.size)⟩
        case measure => simp [intOf]; omega
      · have H2 := Lib.hid (show (∀ i, i < a → p i = false) ∧ (∀ i, m ≤ i → i < n → p i = true) from ⟨HH.out.1, fun i h1 h2 => HM.out m i h1 h2 hp⟩)
        clear hp
        go_wp2
        go_roundw
        case rel => exact ⟨a, m, rfl, rfl, by omega, by omega, H2, bl.trans (b1.mono bl.size)⟩
        case measure => simp [intOf]; omega
    · obtain rfl : a = b := by omega
      go_wp2
      go_ret
      exact ⟨a, by omega, rfl, HH.out.1, HH.out.2, bl⟩
end Go.Proofs.Ytgcebmgmmhdcpaa
