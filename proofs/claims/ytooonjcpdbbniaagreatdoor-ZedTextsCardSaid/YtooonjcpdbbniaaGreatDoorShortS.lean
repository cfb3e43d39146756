/- Division by one limb as its loop goes, from the top limb on: plainly. -/
import Derived.Test.YtooonjcpdbbniaaGreatDoorShortM
import Derived.Test.YtooonjcpdbbniaaGreatDoorApp
import Derived.Test.YtooonjcpdbbniaaGreatDoorMul
namespace Go.Proofs.YtooonjcpdbbniaaGreatDoor
/-- one round: the quotient's limb at i, and what is left -/
def shF (b : Nat) (a : List Nat) (s : List Nat × Nat) (i : Nat) : List Nat × Nat := (s.1.set i ((s.2 * W64 + lat a i) / b), (s.2 * W64 + lat a i) % b)
def shS (b : Nat) (a : List Nat) (is : List Nat) : List Nat × Nat := is.foldl (shF b a) (zeros a.length, 0)
theorem shS_snoc (b : Nat) (a is : List Nat) (i : Nat) : shS b a (is ++ [i]) = shF b a (shS b a is) i := by unfold shS; rw [List.foldl_append]; rfl
theorem shS_len (b : Nat) (a : List Nat) (is : List Nat) : (shS b a is).1.length = a.length := by
  unfold shS
  suffices h : ∀ s : List Nat × Nat, (is.foldl (shF b a) s).1.length = s.1.length by rw [h]; exact zeros_len _
  induction is with
  | nil => intro s; rfl
  | cons i r ih => intro s; rw [List.foldl_cons, ih]; simp [shF]
theorem shS_ok {b : Nat} (hb : 0 < b) {a : List Nat} (ha : Bd a) (is : List Nat) : (shS b a is).2 < b ∧ Bd (shS b a is).1 := by
  unfold shS
  suffices h : ∀ s : List Nat × Nat, s.2 < b → Bd s.1 → (is.foldl (shF b a) s).2 < b ∧ Bd (is.foldl (shF b a) s).1 from h _ hb (Bd.zeros _)
  induction is with
  | nil => intro s h1 h2; exact ⟨h1, h2⟩
  | cons i r ih =>
    intro s h1 h2
    rw [List.foldl_cons]
    refine ih _ (Nat.mod_lt _ hb) fun x hx => ?_
    rcases List.mem_or_eq_of_mem_set hx with h | h
    · exact h2 x h
    · rw [h]
      have hl := ha.lat i
      rw [Nat.div_lt_iff_lt_mul hb]
      have : (s.2 + 1) * W64 ≤ b * W64 := Nat.mul_le_mul_right W64 h1
      rw [Nat.add_mul, Nat.one_mul] at this
      rw [Nat.mul_comm W64 b]
      omega
theorem set_zeros (n : Nat) (x : Nat) (l : List Nat) : (zeros (n + 1) ++ l).set n x = zeros n ++ x :: l := by
  have e : zeros (n + 1) = zeros n ++ [0] := by unfold zeros; rw [List.replicate_succ']
  rw [e, List.append_assoc, List.set_append_right _ _ (by rw [zeros_len]; exact Nat.le_refl _), zeros_len, Nat.sub_self]
  rfl
/-- behind k rounds -/
theorem shS_back (b : Nat) (a : List Nat) : ∀ k, k ≤ a.length → shS b a (back a.length k) = (zeros (a.length - k) ++ shortQ b (a.drop (a.length - k)), num (a.drop (a.length - k)) % b)
  | 0, _ => by
    unfold shS back
    simp [shortQ, num]
  | k + 1, h => by
    rw [back_succ, shS_snoc, shS_back b a k (by omega)]
    unfold shF
    simp only
    have e : a.length - k = (a.length - 1 - k) + 1 := by omega
    have e2 : a.length - (k + 1) = a.length - 1 - k := by omega
    rw [e, e2]
    have h1 := shortQ_at b a (a.length - 1 - k) (by omega)
    have h2 := short_rem_at b a (a.length - 1 - k) (by omega)
    rw [set_zeros, h1, h2]
theorem shS_all {b : Nat} (hb : 0 < b) (a : List Nat) : num (shS b a (back a.length a.length)).1 = num a / b ∧ (shS b a (back a.length a.length)).2 = num a % b := by
  rw [shS_back b a _ (Nat.le_refl _), Nat.sub_self, List.drop_zero]
  have e : zeros 0 = [] := rfl
  rw [e, List.nil_append]
  exact ⟨shortQ_num hb a, rfl⟩
end Go.Proofs.YtooonjcpdbbniaaGreatDoor
