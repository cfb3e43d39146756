/- Plain facts on figures of 32 bits, as the reference has them. No program in sight. -/
import Derived.Test.YtbnnonmkkkhepaaMath2
namespace Go.Proofs.Ytbnnonmkkkhepaa
/-- 2 to the power of 32 -/
def H32 : Nat := 4294967296
theorem H32_pos : 0 < H32 := by unfold H32; omega
theorem two_le_H32 : 2 ≤ H32 := by unfold H32; omega
theorem W64_H32 : W64 = H32 * H32 := by unfold W64 H32; rfl
/-- the number of figures of 32 bits -/
def nuh : List Nat → Nat
  | [] => 0
  | x :: r => x + H32 * nuh r
def Bh (l : List Nat) : Prop := ∀ x ∈ l, x < H32
theorem Bh.bd {l : List Nat} (h : Bh l) : Bd l := fun x hx => by have := h x hx; unfold H32 at this; unfold W64; omega
theorem Bh.nil : Bh [] := by simp [Bh]
theorem Bh.snoc {x : Nat} {l : List Nat} (hl : Bh l) (h : x < H32) : Bh (l ++ [x]) := by
  intro y hy; rcases List.mem_append.1 hy with h' | h'; exact hl _ h'; rw [List.mem_singleton.1 h']; exact h
theorem Bh.lat {l : List Nat} (h : Bh l) (i : Nat) : lat l i < H32 := by
  unfold Go.Proofs.Ytbnnonmkkkhepaa.lat
  by_cases hi : i < l.length
  · rw [List.getElem?_eq_getElem hi]; exact h _ (List.getElem_mem hi)
  · rw [List.getElem?_eq_none (by omega)]; exact H32_pos
theorem Bh.set {l : List Nat} (h : Bh l) (i : Nat) {v : Nat} (hv : v < H32) : Bh (l.set i v) := by
  intro x hx
  rcases List.mem_or_eq_of_mem_set hx with h' | h'
  · exact h x h'
  · rw [h']; exact hv
theorem Bh.zeros (n : Nat) : Bh (zeros n) := fun x hx => by rw [List.eq_of_mem_replicate hx]; exact H32_pos
theorem Bh.tail {x : Nat} {l : List Nat} (h : Bh (x :: l)) : Bh l := fun y hy => h y (List.mem_cons_of_mem _ hy)
theorem nuh_append (a b : List Nat) : nuh (a ++ b) = nuh a + H32 ^ a.length * nuh b := by
  induction a with
  | nil => simp [nuh]
  | cons x r ih => simp only [List.cons_append, nuh, ih, List.length_cons, Nat.pow_succ, Nat.mul_add]; rw [Nat.mul_comm (H32 ^ r.length) H32, Nat.mul_assoc]; omega
theorem nuh_single (x : Nat) : nuh [x] = x := by simp [nuh]
theorem nuh_take_succ (l : List Nat) (k : Nat) : nuh (l.take (k + 1)) = nuh (l.take k) + H32 ^ k * lat l k := by
  by_cases hk : k < l.length
  · rw [List.take_succ_eq_append_getElem hk, nuh_append, nuh_single]
    have : (l.take k).length = k := by simp; omega
    rw [this]; simp [lat, hk]
  · rw [lat_ge (by omega), List.take_of_length_le (by omega), List.take_of_length_le (by omega)]; simp
theorem nuh_take_ge (l : List Nat) (k : Nat) (h : l.length ≤ k) : nuh (l.take k) = nuh l := by rw [List.take_of_length_le h]
theorem nuh_lt (l : List Nat) (h : Bh l) : nuh l < H32 ^ l.length := by
  induction l with
  | nil => simp [nuh]
  | cons x r ih =>
    have h1 := ih h.tail
    have h2 := h x (List.mem_cons_self ..)
    simp only [nuh, List.length_cons, Nat.pow_succ]
    have : H32 * nuh r + H32 ≤ H32 * H32 ^ r.length := by
      have := Nat.mul_le_mul_left H32 (Nat.succ_le_of_lt h1)
      rw [Nat.mul_succ] at this; exact this
    rw [Nat.mul_comm (H32 ^ r.length) H32]; omega
theorem nuh_split (l : List Nat) (k : Nat) (h : k ≤ l.length) : nuh l = nuh (l.take k) + H32 ^ k * nuh (l.drop k) := by
  have := nuh_append (l.take k) (l.drop k)
  rw [List.take_append_drop, List.length_take, Nat.min_eq_left h] at this
  exact this
theorem nuh_set (l : List Nat) (i v : Nat) (h : i < l.length) : nuh (l.set i v) + H32 ^ i * lat l i = nuh l + H32 ^ i * v := by
  have e1 := nuh_split l i (by omega)
  have e2 := nuh_split (l.set i v) i (by simp; omega)
  rw [drop_lat l i h, nuh] at e1
  rw [drop_lat (l.set i v) i (by simp; omega), nuh, lat_set, if_pos ⟨rfl, h⟩, List.take_set_of_le (Nat.le_refl _), List.drop_set_of_lt (by omega)] at e2
  rw [e1, e2]
  simp only [Nat.mul_add]
  omega
theorem nuh_zeros (n : Nat) : nuh (zeros n) = 0 := by
  unfold zeros
  induction n with
  | zero => rfl
  | succ n ih => rw [List.replicate_succ, nuh, ih]; simp

/-- limbs as figures of 32 bits -/
def hv : List Nat → List Nat
  | [] => []
  | x :: r => x % H32 :: x / H32 :: hv r
theorem hv_len (l : List Nat) : (hv l).length = 2 * l.length := by
  induction l with
  | nil => rfl
  | cons x r ih => simp only [hv, List.length_cons, ih]; omega
theorem hv_snoc (l : List Nat) (x : Nat) : hv (l ++ [x]) = hv l ++ [x % H32, x / H32] := by
  induction l with
  | nil => rfl
  | cons y r ih => simp [hv, ih]
theorem hv_take_succ (l : List Nat) (k : Nat) (h : k < l.length) : hv (l.take (k + 1)) = hv (l.take k) ++ [lat l k % H32, lat l k / H32] := by
  rw [List.take_succ_eq_append_getElem h, hv_snoc]; simp [lat, h]
theorem hv_bh (l : List Nat) (h : Bd l) : Bh (hv l) := by
  induction l with
  | nil => exact Bh.nil
  | cons x r ih =>
    intro y hy
    simp only [hv, List.mem_cons] at hy
    rcases hy with rfl | rfl | hy
    · exact Nat.mod_lt _ H32_pos
    · rw [Nat.div_lt_iff_lt_mul H32_pos, ← W64_H32]; exact h.head
    · exact ih h.tail y hy
theorem nuh_hv (l : List Nat) : nuh (hv l) = num l := by
  induction l with
  | nil => rfl
  | cons x r ih =>
    simp only [hv, nuh, num, ih]
    have := Nat.mod_add_div x H32
    rw [W64_H32, Nat.mul_add, ← Nat.mul_assoc]; omega

/-- figures of 32 bits as limbs, the first 2 k of them -/
def wh (l : List Nat) : Nat → List Nat
  | 0 => []
  | k + 1 => wh l k ++ [lat l (2 * k) + lat l (2 * k + 1) * H32]
theorem wh_len (l : List Nat) (k : Nat) : (wh l k).length = k := by
  induction k with
  | zero => rfl
  | succ k ih => simp [wh, ih]
theorem wh_bd (l : List Nat) (h : Bh l) (k : Nat) : Bd (wh l k) := by
  induction k with
  | zero => exact Bd.nil
  | succ k ih =>
    refine ih.snoc ?_
    have h1 := h.lat (2 * k)
    have h2 := h.lat (2 * k + 1)
    rw [W64_H32]
    have : (lat l (2 * k + 1) + 1) * H32 ≤ H32 * H32 := Nat.mul_le_mul_right _ h2
    rw [Nat.add_mul, Nat.one_mul] at this; omega
theorem num_wh (l : List Nat) (k : Nat) : num (wh l k) = nuh (l.take (2 * k)) := by
  induction k with
  | zero => simp [wh, num, nuh]
  | succ k ih =>
    rw [wh, num_append, num_single, wh_len, ih, show 2 * (k + 1) = 2 * k + 1 + 1 from by omega, nuh_take_succ, nuh_take_succ]
    rw [W64_H32, Nat.pow_succ, Nat.pow_mul, Nat.pow_two, Nat.mul_add, Nat.mul_comm (lat l (2 * k + 1)) H32, ← Nat.mul_assoc, Nat.add_assoc]

/-- sums, figure by figure -/
def haddF (s : List Nat × Nat) (p : Nat × Nat) : List Nat × Nat := (s.1 ++ [(p.1 + p.2 + s.2) % H32], (p.1 + p.2 + s.2) / H32)
def haddTo (a b : List Nat) : Nat → List Nat × Nat
  | 0 => ([], 0)
  | k + 1 => haddF (haddTo a b k) (lat a k, lat b k)
theorem haddTo_ok (a b : List Nat) (ha : Bh a) (hb : Bh b) (k : Nat) : nuh (haddTo a b k).1 + H32 ^ k * (haddTo a b k).2 = nuh (a.take k) + nuh (b.take k) ∧ (haddTo a b k).1.length = k ∧ (haddTo a b k).2 ≤ 1 ∧ Bh (haddTo a b k).1 := by
  induction k with
  | zero => simp [haddTo, nuh, Bh.nil]
  | succ k ih =>
    obtain ⟨h1, h2, h3, h4⟩ := ih
    simp only [haddTo, haddF]
    generalize haddTo a b k = s at *
    have hx := ha.lat k
    have hy := hb.lat k
    refine ⟨?_, by simp [h2], ?_, h4.snoc (Nat.mod_lt _ H32_pos)⟩
    · rw [nuh_append, nuh_single, h2, nuh_take_succ, nuh_take_succ, Nat.pow_succ]
      have := Nat.mod_add_div (lat a k + lat b k + s.2) H32
      have e : H32 ^ k * ((lat a k + lat b k + s.2) % H32) + H32 ^ k * H32 * ((lat a k + lat b k + s.2) / H32) = H32 ^ k * (lat a k + lat b k + s.2) := by
        rw [Nat.mul_assoc, ← Nat.mul_add, this]
      simp only [Nat.mul_add] at *
      omega
    · have := Nat.div_lt_of_lt_mul (m := lat a k + lat b k + s.2) (n := H32) (k := 2) (by omega)
      omega
theorem carry_core {P H n a b : Nat} (h2 : 2 ≤ H) (la : a < P) (lb : b < P) (h1 : n + P * H = a + b) : False := by
  have : P * 2 ≤ P * H := Nat.mul_le_mul_left _ h2
  omega
theorem haddTo_end (a b : List Nat) (ha : Bh a) (hb : Bh b) : nuh (haddTo a b (max a.length b.length + 1)).1 = nuh a + nuh b := by
  obtain ⟨h1, h2, h3, h4⟩ := haddTo_ok a b ha hb (max a.length b.length + 1)
  rw [nuh_take_ge _ _ (by omega), nuh_take_ge _ _ (by omega)] at h1
  have la := nuh_lt a ha
  have lb := nuh_lt b hb
  have pa : H32 ^ a.length ≤ H32 ^ max a.length b.length := Nat.pow_le_pow_right H32_pos (by omega)
  have pb : H32 ^ b.length ≤ H32 ^ max a.length b.length := Nat.pow_le_pow_right H32_pos (by omega)
  generalize haddTo a b (max a.length b.length + 1) = s at *
  generalize max a.length b.length = m at *
  clear h2 h4
  obtain ⟨s1, s2⟩ := s
  dsimp only at *
  have hs : s2 = 0 ∨ s2 = 1 := by omega
  rcases hs with e | e
  · rw [e, Nat.mul_zero] at h1; exact h1
  · exfalso
    rw [e, Nat.pow_succ, Nat.mul_one] at h1
    exact carry_core two_le_H32 (Nat.lt_of_lt_of_le la pa) (Nat.lt_of_lt_of_le lb pb) h1

/-- differences, figure by figure -/
def hsubF (s : List Nat × Nat) (p : Nat × Nat) : List Nat × Nat := (s.1 ++ [(H32 + p.1 - p.2 - s.2) % H32], 1 - (H32 + p.1 - p.2 - s.2) / H32)
def hsubTo (a b : List Nat) : Nat → List Nat × Nat
  | 0 => ([], 0)
  | k + 1 => hsubF (hsubTo a b k) (lat a k, lat b k)
theorem hsubTo_ok (a b : List Nat) (ha : Bh a) (hb : Bh b) (k : Nat) : nuh (hsubTo a b k).1 + nuh (b.take k) = nuh (a.take k) + H32 ^ k * (hsubTo a b k).2 ∧ (hsubTo a b k).1.length = k ∧ (hsubTo a b k).2 ≤ 1 ∧ Bh (hsubTo a b k).1 := by
  induction k with
  | zero => simp [hsubTo, nuh, Bh.nil]
  | succ k ih =>
    obtain ⟨h1, h2, h3, h4⟩ := ih
    simp only [hsubTo, hsubF]
    generalize hsubTo a b k = s at *
    have hx := ha.lat k
    have hy := hb.lat k
    refine ⟨?_, by simp [h2], Nat.sub_le _ _, h4.snoc (Nat.mod_lt _ H32_pos)⟩
    rw [nuh_append, nuh_single, h2, nuh_take_succ, nuh_take_succ, Nat.pow_succ]
    generalize lat a k = x at *
    generalize lat b k = y at *
    have key : (H32 + x - y - s.2) % H32 + y + s.2 = x + H32 * (1 - (H32 + x - y - s.2) / H32) := by
      by_cases h : x < y + s.2
      · rw [Nat.mod_eq_of_lt (by omega), Nat.div_eq_of_lt (by omega)]; omega
      · have e : H32 + x - y - s.2 = (x - y - s.2) + H32 := by omega
        rw [e, Nat.add_mod_right, Nat.mod_eq_of_lt (by omega), Nat.add_div_right _ H32_pos, Nat.div_eq_of_lt (by omega)]; omega
    have e := congrArg (H32 ^ k * ·) key
    simp only [Nat.mul_add, ← Nat.mul_assoc] at e
    omega
theorem hsubTo_end (a b : List Nat) (ha : Bh a) (hb : Bh b) (hl : b.length ≤ a.length) (hle : nuh b ≤ nuh a) : nuh (hsubTo a b a.length).1 = nuh a - nuh b := by
  obtain ⟨h1, h2, h3, h4⟩ := hsubTo_ok a b ha hb a.length
  rw [nuh_take_ge _ _ (by omega), nuh_take_ge _ _ (by omega)] at h1
  have h5 := nuh_lt _ h4
  rw [h2] at h5
  have : (hsubTo a b a.length).2 = 0 ∨ (hsubTo a b a.length).2 = 1 := by omega
  rcases this with e | e
  · rw [e, Nat.mul_zero] at h1; omega
  · rw [e, Nat.mul_one] at h1; omega

/-- one step of a row of a product -/
theorem hmul_digit {x y o c n : Nat} (hx : x < H32) (hy : y < H32) (ho : o < H32) (hc : c < H32) (e : n = o + x * y + c) : n < W64 ∧ n % H32 + H32 * (n / H32) = x * y + o + c ∧ n / H32 < H32 ∧ o + x * y < W64 := by
  have hp : x * y ≤ (H32 - 1) * (H32 - 1) := Nat.mul_le_mul (by omega) (by omega)
  have hp2 : (H32 - 1) * (H32 - 1) + 2 * (H32 - 1) + 1 = H32 * H32 := by unfold H32; rfl
  refine ⟨by rw [W64_H32]; omega, by rw [Nat.mod_add_div, e]; omega, ?_, by rw [W64_H32]; omega⟩
  rw [Nat.div_lt_iff_lt_mul H32_pos]; omega
theorem hmul_inner {l b : List Nat} {i k N x c o s2 r : Nat} (hl : i + k < l.length) (ho : o = lat l (i + k)) (hinv : nuh l + H32 ^ (i + k) * c = N + H32 ^ i * (x * nuh (b.take k))) (hd : s2 + H32 * r = x * lat b k + o + c) :
    nuh (l.set (i + k) s2) + H32 ^ (i + k + 1) * r = N + H32 ^ i * (x * nuh (b.take (k + 1))) := by
  have e1 := nuh_set l (i + k) s2 hl
  rw [← ho] at e1
  rw [nuh_take_succ, Nat.mul_add x, Nat.mul_add (H32 ^ i), ← Nat.add_assoc, ← hinv, Nat.pow_succ]
  have e2 := congrArg (H32 ^ (i + k) * ·) hd
  simp only [Nat.mul_add] at e2
  have e3 : H32 ^ i * (x * (H32 ^ k * lat b k)) = H32 ^ (i + k) * (x * lat b k) := by
    rw [Nat.pow_add, Nat.mul_left_comm x, Nat.mul_assoc]
  have e4 : H32 ^ (i + k) * H32 * r = H32 ^ (i + k) * (H32 * r) := by rw [Nat.mul_assoc]
  rw [e3, e4]
  omega
theorem hmul_outer {l a b : List Nat} {i c : Nat} (hl : i + b.length < l.length) (h0 : lat l (i + b.length) = 0) (hinv : nuh l + H32 ^ (i + b.length) * c = nuh (a.take i) * nuh b + H32 ^ i * (lat a i * nuh b)) :
    nuh (l.set (i + b.length) c) = nuh (a.take (i + 1)) * nuh b := by
  have e1 := nuh_set l (i + b.length) c hl
  rw [h0] at e1
  rw [nuh_take_succ, Nat.add_mul, Nat.mul_assoc, ← hinv]
  omega
end Go.Proofs.Ytbnnonmkkkhepaa
