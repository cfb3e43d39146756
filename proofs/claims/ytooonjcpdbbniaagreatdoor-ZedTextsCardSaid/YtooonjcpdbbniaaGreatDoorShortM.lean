/- A number divided by one limb, limb by limb from the top, plainly. -/
import Derived.Test.YtooonjcpdbbniaaGreatDoorMath
namespace Go.Proofs.YtooonjcpdbbniaaGreatDoor
/-- what is left of the limbs from the i-th one on, and how often the divisor goes into them, limb by limb -/
def shortQ (b : Nat) : List Nat → List Nat
  | [] => []
  | x :: l => ((num l % b) * W64 + x) / b :: shortQ b l
theorem shortQ_len (b : Nat) : ∀ l : List Nat, (shortQ b l).length = l.length
  | [] => rfl
  | _ :: l => by unfold shortQ; rw [List.length_cons, List.length_cons, shortQ_len b l]
theorem num_two (x : Nat) (l : List Nat) : num (x :: l) = x + W64 * num l := rfl
theorem short_split (b x n : Nat) : x + W64 * n = (n % b) * W64 + x + b * (W64 * (n / b)) := by
  have e := Nat.div_add_mod n b
  generalize n / b = q at *
  generalize n % b = r at *
  rw [← e, Nat.mul_add, Nat.mul_comm W64 r, ← Nat.mul_assoc, ← Nat.mul_assoc, Nat.mul_comm b W64]; omega
/-- what is left of one limb more -/
theorem short_rem (b x : Nat) (l : List Nat) : num (x :: l) % b = ((num l % b) * W64 + x) % b := by
  rw [num_two, short_split b, Nat.add_mul_mod_self_left]
theorem shortQ_num {b : Nat} (hb : 0 < b) : ∀ l : List Nat, num (shortQ b l) = num l / b
  | [] => by unfold shortQ num; simp
  | x :: l => by
    have ih := shortQ_num hb l
    show num (((num l % b) * W64 + x) / b :: shortQ b l) = num (x :: l) / b
    rw [num_two, num_two, ih, short_split b x (num l), Nat.add_mul_div_left _ _ hb]
theorem shortQ_bd {b : Nat} (hb : 0 < b) : ∀ {l : List Nat}, Bd l → Bd (shortQ b l)
  | [], _ => Bd.nil
  | x :: l, h => by
    refine Bd.cons ?_ (shortQ_bd hb h.tail)
    have h1 := Nat.mod_lt (num l) hb
    have h2 := h.head
    rw [Nat.div_lt_iff_lt_mul hb]
    have : (num l % b + 1) * W64 ≤ b * W64 := Nat.mul_le_mul_right W64 h1
    rw [Nat.add_mul, Nat.one_mul] at this
    rw [Nat.mul_comm W64 b]
    omega
/-- the quotient's limb at a place -/
theorem shortQ_at (b : Nat) : ∀ (l : List Nat) (i : Nat), i < l.length → shortQ b (l.drop i) = ((num (l.drop (i + 1)) % b) * W64 + lat l i) / b :: shortQ b (l.drop (i + 1))
  | [], i, h => by simp at h
  | x :: l, 0, _ => by simp [shortQ, lat]
  | x :: l, i + 1, h => by
    have := shortQ_at b l i (by simpa using h)
    simpa [lat] using this
theorem short_rem_at (b : Nat) (l : List Nat) (i : Nat) (h : i < l.length) : num (l.drop i) % b = ((num (l.drop (i + 1)) % b) * W64 + lat l i) % b := by
  have e : l.drop i = lat l i :: l.drop (i + 1) := by
    rw [List.drop_eq_getElem_cons h]; congr 1; unfold lat; rw [List.getElem?_eq_getElem h]; rfl
  rw [e, short_rem]
end Go.Proofs.YtooonjcpdbbniaaGreatDoor
