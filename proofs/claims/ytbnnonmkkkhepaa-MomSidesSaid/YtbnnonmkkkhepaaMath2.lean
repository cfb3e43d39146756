/- Plain facts on products of limbs. No program in sight. -/
import Derived.Test.YtbnnonmkkkhepaaMath
namespace Go.Proofs.Ytbnnonmkkkhepaa
theorem lat_set (l : List Nat) (i j v : Nat) : lat (l.set i v) j = if i = j ∧ i < l.length then v else lat l j := by
  unfold lat
  rw [List.getElem?_set]
  by_cases h : i = j
  · subst h
    by_cases h2 : i < l.length
    · simp [h2]
    · simp [h2]
  · simp [h]
theorem Bd.set {l : List Nat} (h : Bd l) (i : Nat) {v : Nat} (hv : v < W64) : Bd (l.set i v) := by
  intro x hx
  rcases List.mem_or_eq_of_mem_set hx with h' | h'
  · exact h x h'
  · rw [h']; exact hv
theorem num_set (l : List Nat) (i v : Nat) (h : i < l.length) : num (l.set i v) + W64 ^ i * lat l i = num l + W64 ^ i * v := by
  have e1 := num_split l i (by omega)
  have e2 := num_split (l.set i v) i (by simp; omega)
  rw [drop_lat l i h, num] at e1
  rw [drop_lat (l.set i v) i (by simp; omega), num, lat_set, if_pos ⟨rfl, h⟩, List.take_set_of_le (Nat.le_refl _), List.drop_set_of_lt (by omega)] at e2
  rw [e1, e2]
  simp only [Nat.mul_add]
  omega
/-- a row of noughts -/
def zeros (n : Nat) : List Nat := List.replicate n 0
theorem zeros_len (n : Nat) : (zeros n).length = n := by simp [zeros]
theorem num_replicate (n : Nat) : num (List.replicate n 0) = 0 := by
  induction n with
  | zero => rfl
  | succ n ih => rw [List.replicate_succ, num, ih]; simp
theorem lat_replicate (n j : Nat) : lat (List.replicate n 0) j = 0 := by
  unfold lat; rw [List.getElem?_replicate]; split <;> rfl
theorem Bd.replicate (n : Nat) : Bd (List.replicate n 0) := fun x hx => by rw [List.eq_of_mem_replicate hx]; exact W64_pos

theorem num_zeros (n : Nat) : num (zeros n) = 0 := num_replicate n
theorem lat_zeros (n j : Nat) : lat (zeros n) j = 0 := lat_replicate n j
theorem Bd.zeros (n : Nat) : Bd (zeros n) := Bd.replicate n
/-- one step of a row of a product -/
theorem mul_digit {x y o c lo hi s1 c1 h1 s2 c2 r : Nat} (hx : x < W64) (hy : y < W64) (ho : o < W64) (hc : c < W64) (e1 : hi = x * y / W64) (e2 : lo = x * y % W64) (e3 : s1 = (lo + o) % W64) (e4 : c1 = (lo + o) / W64)
    (e5 : h1 = hi + c1) (e6 : s2 = (s1 + c) % W64) (e7 : c2 = (s1 + c) / W64) (e8 : r = h1 + c2) : s2 + W64 * r = x * y + o + c ∧ r < W64 ∧ h1 < W64 ∧ s2 < W64 ∧ c1 ≤ 1 ∧ c2 ≤ 1 := by
  have d1 := Nat.mod_add_div (x * y) W64
  have d2 := Nat.mod_add_div (lo + o) W64
  have d3 := Nat.mod_add_div (s1 + c) W64
  rw [← e1, ← e2] at d1
  rw [← e3, ← e4] at d2
  rw [← e6, ← e7] at d3
  have hs2 : s2 < W64 := e6 ▸ Nat.mod_lt _ W64_pos
  have total : s2 + W64 * r = x * y + o + c := by rw [e8, e5]; simp only [Nat.mul_add]; omega
  have hp : x * y ≤ (W64 - 1) * (W64 - 1) := Nat.mul_le_mul (by omega) (by omega)
  have hp2 : (W64 - 1) * (W64 - 1) + 2 * (W64 - 1) + 1 = W64 * W64 := by unfold W64; rfl
  have hr : r < W64 := by
    rcases Nat.lt_or_ge r W64 with h | h
    · exact h
    · have := Nat.mul_le_mul_left W64 h; omega
  have hlo : lo < W64 := e2 ▸ Nat.mod_lt _ W64_pos
  have hs1 : s1 < W64 := e3 ▸ Nat.mod_lt _ W64_pos
  refine ⟨total, hr, by omega, hs2, ?_, ?_⟩
  · rw [e4]; have := Nat.div_lt_of_lt_mul (m := lo + o) (n := W64) (k := 2) (by omega); omega
  · rw [e7]; have := Nat.div_lt_of_lt_mul (m := s1 + c) (n := W64) (k := 2) (by omega); omega

/-- what a row of a product keeps, a limb on -/
theorem mul_inner {l b : List Nat} {i k N x c o s2 r : Nat} (hl : i + k < l.length) (ho : o = lat l (i + k)) (hinv : num l + W64 ^ (i + k) * c = N + W64 ^ i * (x * num (b.take k))) (hd : s2 + W64 * r = x * lat b k + o + c) :
    num (l.set (i + k) s2) + W64 ^ (i + k + 1) * r = N + W64 ^ i * (x * num (b.take (k + 1))) := by
  have e1 := num_set l (i + k) s2 hl
  rw [← ho] at e1
  rw [num_take_succ, Nat.mul_add x, Nat.mul_add (W64 ^ i), ← Nat.add_assoc, ← hinv, Nat.pow_succ]
  have e2 := congrArg (W64 ^ (i + k) * ·) hd
  simp only [Nat.mul_add] at e2
  have e3 : W64 ^ i * (x * (W64 ^ k * lat b k)) = W64 ^ (i + k) * (x * lat b k) := by
    rw [Nat.pow_add, Nat.mul_left_comm x, Nat.mul_assoc]
  have e4 : W64 ^ (i + k) * W64 * r = W64 ^ (i + k) * (W64 * r) := by rw [Nat.mul_assoc]
  rw [e3, e4]
  omega
theorem mul_outer {l a b : List Nat} {i c : Nat} (hl : i + b.length < l.length) (h0 : lat l (i + b.length) = 0) (hinv : num l + W64 ^ (i + b.length) * c = num (a.take i) * num b + W64 ^ i * (lat a i * num b)) :
    num (l.set (i + b.length) c) = num (a.take (i + 1)) * num b := by
  have e1 := num_set l (i + b.length) c hl
  rw [h0] at e1
  rw [num_take_succ, Nat.add_mul, Nat.mul_assoc, ← hinv]
  omega
end Go.Proofs.Ytbnnonmkkkhepaa
