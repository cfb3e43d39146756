/- Sizes of numbers, by limbs; what is given to the laws of layer 1. -/
import Derived.Test.YtegfgjapmnokjaaGiven01
import Derived.Test.YtegfgjapmnokjaaRef4
import Derived.Test.YtegfgjapmnokjaaSub
namespace Go.Proofs.Ytegfgjapmnokjaa
open Go.RowKit
/-- a number of at most k limbs -/
def Sz (n k : Nat) : Prop := (limbs n).length ≤ k
theorem Sz.fin {n k : Nat} (h : Sz n k) (hk : k ≤ 1000000) : (limbs n).length ≤ 1000000 := Nat.le_trans h hk
theorem Sz.add {a b k m : Nat} (ha : Sz a k) (hb : Sz b m) : Sz (a + b) (k + m + 1) := by
  unfold Sz at *; have := limbs_len_add a b; omega
theorem Sz.mul {a b k m : Nat} (ha : Sz a k) (hb : Sz b m) : Sz (a * b) (k + m) := by
  unfold Sz at *; have := limbs_len_mul a b; omega
theorem Sz.sub {a b k : Nat} (ha : Sz a k) : Sz (a - b) k := Nat.le_trans (limbs_len_mono (Nat.sub_le a b)) ha
theorem Sz.zero : Sz 0 0 := by unfold Sz; rw [limbs_zero]; simp
theorem Sz.one : Sz 1 1 := by unfold Sz; rw [limbs_single (by omega) (by unfold W64; omega)]; simp
theorem IsL.form {w : World} {v : Value} {l : List Nat} (h : IsL w v l) : ∃ A n c, v = .slice A n c := by obtain ⟨A, c, e, _⟩ := h; exact ⟨A, _, c, e⟩
theorem IsL.num_of {w : World} {v : Value} {l : List Nat} (h : IsL w v l) (hg : good l = true) : IsN w v (num l) ∧ Sz (num l) 20 := by
  obtain ⟨h1, h2⟩ := (good_iff l).1 hg
  have e := limbs_num l h.bd h2
  exact ⟨by unfold IsN; rw [e]; exact h, by unfold Sz; rw [e]; exact h1⟩
theorem IsN.good {w : World} {v : Value} {n : Nat} (_ : IsN w v n) (hs : Sz n 20) : good (limbs n) = true := (good_iff _).2 ⟨hs, limbs_rt n⟩

set_option maxHeartbeats 400000 in
theorem rsame_any (va vb : Value) (a b : Nat) (w : World) (ha : IsN w va a) (hb : IsN w vb b) :
    Calls Try.prog 13 #[va, vb] w fun e w' => e = .returned (.bool (decide (a = b))) ∧ ∃ n, w' = w.drewN n := by
  have C := rcmp_any va vb _ _ w ha hb
  rw [cmpL_limbs] at C
  have C' := Lib.hid C
  clear C
  go_enter Try.func13, Try.ntmps13
  go_wp2_with fail
  refine C'.out.mono ?_
  rintro e w1 ⟨rfl, n, rfl⟩
  go_wp2
  go_ret
  refine ⟨ret_bool ?_, n, rfl⟩
  rw [Bool.eq_iff_iff, beq_iff_eq, decide_eq_true_iff, cmpI_zero]
  omega
theorem rsame_eq (va vb : Value) (a b : Nat) (w : World) (ha : IsN w va a) (hb : IsN w vb b) (h : a = b) :
    Calls Try.prog 13 #[va, vb] w fun e w' => e = .returned (.bool true) ∧ ∃ n, w' = w.drewN n := by
  have := rsame_any va vb a b w ha hb
  rwa [decide_eq_true h] at this
theorem rright_n (v : Value) (n : Nat) (w : World) (h : IsN w v n) : Calls Try.prog 12 #[v] w fun e w' => e = .returned (.bool true) ∧ w = w' := by
  have := rright_any v _ w h
  rwa [decide_eq_true (show limbs n = [] ∨ lat (limbs n) ((limbs n).length - 1) ≠ 0 from limbs_rt n)] at this

set_option maxHeartbeats 400000 in
theorem rof_any (n : Nat) (hn : n < W64) (w : World) :
    Calls Try.prog 15 #[.int .u64 n] w fun e w' => ∃ v', e = .returned v' ∧ IsN w' v' n ∧ Below w.heap.size w w' := by
  go_enter Try.func15, Try.ntmps15
  go_wp2_with fail
  refine (rbare_any _ [n] _ (IsL.fresh w _ [n] (Bd.cons hn Bd.nil) (by simp)) (by simp)).mono ?_
  rintro e w' ⟨v', rfl, hv, hb⟩
  go_wp2
  go_ret
  have b0 : Below w.heap.size w (w.alloc (.cells #[.int .u64 (n : Int)] 24)) := (Below.refl _ _).alloc (Nat.le_refl _) _
  exact ⟨_, rfl, by rwa [num_single] at hv, b0.trans (hb.mono b0.size)⟩
end Go.Proofs.Ytegfgjapmnokjaa
