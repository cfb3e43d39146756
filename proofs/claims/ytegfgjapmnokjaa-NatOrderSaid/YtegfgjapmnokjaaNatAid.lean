/- Contracts at the answers that the laws of layer 1 ask for. -/
import Derived.Test.YtegfgjapmnokjaaNatSz
namespace Go.Proofs.Ytegfgjapmnokjaa
open Go.RowKit
theorem cmp_lt (va vb : Value) (a b : Nat) (w : World) (ha : IsN w va a) (hb : IsN w vb b) (h : a < b) : Calls Try.prog 19 #[va, vb] w fun e w' => e = .returned (.int .i64 (-1)) ∧ Below w.heap.size w w' := by
  have := cmp_any va vb a b w ha hb
  rwa [cmpI_lt (by omega)] at this
theorem cmp_eq (va vb : Value) (a b : Nat) (w : World) (ha : IsN w va a) (hb : IsN w vb b) (h : a = b) : Calls Try.prog 19 #[va, vb] w fun e w' => e = .returned (.int .i64 0) ∧ Below w.heap.size w w' := by
  have := cmp_any va vb a b w ha hb
  subst h
  rwa [cmpI_eq] at this
theorem cmp_gt (va vb : Value) (a b : Nat) (w : World) (ha : IsN w va a) (hb : IsN w vb b) (h : b < a) : Calls Try.prog 19 #[va, vb] w fun e w' => e = .returned (.int .i64 1) ∧ Below w.heap.size w w' := by
  have := cmp_any va vb a b w ha hb
  rwa [cmpI_gt (by omega)] at this
theorem rsame_ne (va vb : Value) (a b : Nat) (w : World) (ha : IsN w va a) (hb : IsN w vb b) (h : a ≠ b) :
    Calls Try.prog 13 #[va, vb] w fun e w' => e = .returned (.bool false) ∧ ∃ n, w' = w.drewN n := by
  have := rsame_any va vb a b w ha hb
  rwa [decide_eq_false h] at this
theorem sub_to (va vb : Value) (a b c : Nat) (w : World) (ha : IsN w va a) (hb : IsN w vb b) (hla : (limbs a).length ≤ 1000000) (hlb : (limbs b).length ≤ 1000000) (h : c + b = a) :
    Calls Try.prog 25 #[va, vb] w fun e w' => ∃ v', e = .returned (.tuple #[v', .int .i64 0]) ∧ IsN w' v' c ∧ Below w.heap.size w w' := by
  have := sub_any va vb a b w ha hb hla hlb (by omega)
  rwa [show a - b = c from by omega] at this
theorem add_to (va vb : Value) (a b c : Nat) (w : World) (ha : IsN w va a) (hb : IsN w vb b) (hla : (limbs a).length ≤ 1000000) (hlb : (limbs b).length ≤ 1000000) (h : a + b = c) :
    Calls Try.prog 23 #[va, vb] w fun e w' => ∃ v', e = .returned v' ∧ IsN w' v' c ∧ Below w.heap.size w w' := by
  subst h; exact add_any va vb a b w ha hb hla hlb
theorem mul_to (va vb : Value) (a b c : Nat) (w : World) (ha : IsN w va a) (hb : IsN w vb b) (hla : (limbs a).length ≤ 1000000) (hlb : (limbs b).length ≤ 1000000) (h : a * b = c) :
    Calls Try.prog 24 #[va, vb] w fun e w' => ∃ v', e = .returned v' ∧ IsN w' v' c ∧ Below w.heap.size w w' := by
  subst h; exact mul_any va vb a b w ha hb hla hlb
/-- with its length at hand -/
theorem IsN.open_ {w : World} {v : Value} {n : Nat} (h : IsN w v n) : ∃ A m c, v = .slice A m c ∧ m = (limbs n).length := by obtain ⟨A, c, e, _⟩ := h; exact ⟨A, _, c, e, rfl⟩
theorem IsN.zero_form {w : World} {v : Value} (h : IsN w v 0) : ∃ A c, v = .slice A 0 c := by
  unfold IsN at h; rw [limbs_zero] at h; obtain ⟨A, c, e, _⟩ := h; exact ⟨A, c, e⟩
theorem rcmp_n (va vb : Value) (a b : Nat) (w : World) (ha : IsN w va a) (hb : IsN w vb b) :
    Calls Try.prog 20 #[va, vb] w fun e w' => e = .returned (.int .i64 (cmpI a b)) ∧ ∃ n, w' = w.drewN n := by
  have := rcmp_any va vb _ _ w ha hb
  rwa [cmpL_limbs] at this
end Go.Proofs.Ytegfgjapmnokjaa
