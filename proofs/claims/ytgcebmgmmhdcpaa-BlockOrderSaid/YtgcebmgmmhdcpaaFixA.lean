/- Package fix: sizes and sides; two limbs by one. -/
import Derived.Test.YtgcebmgmmhdcpaaMath
import Derived.Test.YtgcebmgmmhdcpaaDiv64
import Derived.Laws.Rows
namespace Go.Proofs.Ytgcebmgmmhdcpaa
open Go.RowKit

set_option maxHeartbeats 400000 in
theorem size_any (a : Int) (h0 : -9223372036854775808 ≤ a) (h1 : a ≤ 9223372036854775807) (w : World) :
    Calls Try.prog 90 #[.int .i64 a] w fun e w' => e = .returned (.int .u64 (a.natAbs : Int)) ∧ w = w' := by
  by_cases h : a < 0
  · have hw : IntKind.u64.wrap a = a + 18446744073709551616 := by rw [IntKind.wrap_u64]; omega
    have hw2 : IntKind.u64.wrap (-(a + 18446744073709551616)) = -a := by rw [IntKind.wrap_u64]; omega
    have hr : (a.natAbs : Int) = -a := by omega
    rw [hr]
    clear hr
    go_enter Try.func90, Try.ntmps90
    go_wp2
    go_ret
    exact ⟨rfl, rfl⟩
  · have hw : IntKind.u64.wrap a = a := by rw [IntKind.wrap_u64]; omega
    have hr : (a.natAbs : Int) = a := by omega
    rw [hr]
    clear hr
    have h' : 0 ≤ a := by omega
    go_enter Try.func90, Try.ntmps90
    go_wp2
    go_ret
    exact ⟨rfl, rfl⟩
set_option maxHeartbeats 400000 in
theorem sided_any (neg : Bool) (n : Nat) (hn : n < W64) (w : World) :
    Calls Try.prog 95 #[.bool neg, .int .u64 n] w fun e w' => e = .returned (.tuple #[.int .i64 (fitV (sided neg n)), .int .i64 (fitE (sided neg n))]) ∧ w = w' := by
  unfold W64 at hn
  cases neg
  · by_cases h : n ≤ 9223372036854775807
    · obtain ⟨e1, e2⟩ := fit_in (z := sided false n) (by unfold sided; simp; omega)
      rw [e1, e2, show sided false n = (n : Int) from rfl]
      clear e1 e2
      have hd : decide ((n : Int) ≤ 9223372036854775807) = true := decide_eq_true (by omega)
      have hw : IntKind.i64.wrap (n : Int) = n := by rw [IntKind.wrap_i64]; omega
      clear h
      go_enter Try.func95, Try.ntmps95
      go_wp2
      go_ret2
      exact ⟨rfl, rfl⟩
    · obtain ⟨e1, e2⟩ := fit_out (z := sided false n) (by unfold sided; simp; omega)
      rw [e1, e2]
      clear e1 e2
      have hd : decide ((n : Int) ≤ 9223372036854775807) = false := decide_eq_false (by omega)
      clear h
      go_enter Try.func95, Try.ntmps95
      go_wp2
      go_ret2
      exact ⟨rfl, rfl⟩
  · by_cases h : n ≤ 9223372036854775808
    · obtain ⟨e1, e2⟩ := fit_in (z := sided true n) (by unfold sided; simp; omega)
      rw [e1, e2, show sided true n = -(n : Int) from rfl]
      clear e1 e2
      have hd : decide ((n : Int) ≤ 9223372036854775808) = true := decide_eq_true (by omega)
      have hw : IntKind.i64.wrap (IntKind.u64.wrap (-(n : Int))) = -(n : Int) := by rw [IntKind.wrap_i64, IntKind.wrap_u64]; omega
      clear h
      go_enter Try.func95, Try.ntmps95
      go_wp2
      go_ret2
      exact ⟨rfl, rfl⟩
    · obtain ⟨e1, e2⟩ := fit_out (z := sided true n) (by unfold sided; simp; omega)
      rw [e1, e2]
      clear e1 e2
      have hd : decide ((n : Int) ≤ 9223372036854775808) = false := decide_eq_false (by omega)
      clear h
      go_enter Try.func95, Try.ntmps95
      go_wp2
      go_ret2
      exact ⟨rfl, rfl⟩
set_option maxHeartbeats 1000000 in
theorem by_over (neg : Bool) (l0 l1 d : Nat) (h0 : l0 < W64) (h1 : l1 < W64) (hd : d < W64) (hp : 0 < d) (h : d ≤ l0) (w : World) :
    Calls Try.prog 91 #[.bool neg, .agg #[.int .u64 l0, .int .u64 l1], .int .u64 d] w fun e w' => e = .returned (.tuple #[.int .i64 0, .int .i64 2]) ∧ Below w.heap.size w w' := by
  unfold W64 at *
  go_enter Try.func91, Try.ntmps91
  go_wp2
  go_ret2
  exact ⟨rfl, (Below.refl _ w).alloc (Nat.le_refl _) _⟩
end Go.Proofs.Ytgcebmgmmhdcpaa
