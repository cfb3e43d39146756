/- Division by binary figures, plainly: limbs of a quotient, bit by bit. No program in sight. -/
import Derived.Test.YtooonjcpdbbniaaDoorMath
import Derived.Test.YtooonjcpdbbniaaDoorRef2
import Derived.Deep.LoopGhost
namespace Go.Proofs.YtooonjcpdbbniaaDoor

theorem lat_limbs (n j : Nat) : lat (limbs n) j = n / W64 ^ j % W64 := by
  induction j generalizing n with
  | zero =>
    by_cases h : n = 0
    · subst h; rw [limbs_zero]; simp [lat]
    · rw [limbs_pos h]; simp [lat]
  | succ j ih =>
    by_cases h : n = 0
    · subst h; rw [limbs_zero]; simp [lat]
    · rw [limbs_pos h, lat_cons_succ, ih, Nat.div_div_eq_div_mul, Nat.pow_succ, Nat.mul_comm (W64 ^ j)]
theorem num_range (Q n : Nat) : num ((List.range n).map fun j => Q / W64 ^ j % W64) = Q % W64 ^ n := by
  induction n with
  | zero => simp [num, Nat.mod_one]
  | succ n ih =>
    rw [List.range_succ, List.map_append, num_append, ih, List.map_singleton, num_single, List.length_map, List.length_range, Nat.pow_succ, Nat.mod_mul]
theorem Bd.range (g : Nat → Nat) (n : Nat) (h : ∀ j, g j < W64) : Bd ((List.range n).map g) := by
  intro x hx; obtain ⟨j, _, rfl⟩ := List.mem_map.1 hx; exact h j
theorem lat_range (g : Nat → Nat) (n j : Nat) (h : j < n) : lat ((List.range n).map g) j = g j := by simp [lat, h]
/-- the limb of a quotient, of which the lowest m figures are still to come -/
def ql (Q m j : Nat) : Nat := (Q / W64 ^ j % W64) / 2 ^ (m - 64 * j)
def qrow (Q m n : Nat) : List Nat := (List.range n).map (ql Q m)
theorem ql_lt (Q m j : Nat) : ql Q m j < W64 := Nat.lt_of_le_of_lt (Nat.div_le_self _ _) (Nat.mod_lt _ W64_pos)
theorem qrow_len (Q m n : Nat) : (qrow Q m n).length = n := by simp [qrow]
theorem qrow_bd (Q m n : Nat) : Bd (qrow Q m n) := Bd.range _ _ (ql_lt Q m)
theorem lat_qrow (Q m n j : Nat) (h : j < n) : lat (qrow Q m n) j = ql Q m j := lat_range _ _ _ h
theorem qrow_zero (Q n : Nat) (h : Q < W64 ^ n) : num (qrow Q 0 n) = Q := by
  have : qrow Q 0 n = (List.range n).map fun j => Q / W64 ^ j % W64 := by
    unfold qrow ql; simp
  rw [this, num_range, Nat.mod_eq_of_lt h]
theorem qrow_start (Q m n : Nat) (h : Q < 2 ^ m) : qrow Q m n = zeros n := by
  unfold qrow zeros
  rw [List.eq_replicate_iff]
  refine ⟨by simp, fun x hx => ?_⟩
  obtain ⟨j, _, rfl⟩ := List.mem_map.1 hx
  unfold ql
  rw [Nat.div_eq_zero_iff]
  right
  refine Nat.lt_of_le_of_lt (Nat.mod_le _ _) ?_
  rw [Nat.div_lt_iff_lt_mul (Nat.pow_pos W64_pos), W64_pow, ← Nat.pow_add]
  exact Nat.lt_of_lt_of_le h (Nat.pow_le_pow_right (by omega) (by omega))
theorem half_pow (x s : Nat) : x / 2 ^ s = 2 * (x / 2 ^ (s + 1)) + x / 2 ^ s % 2 := by
  rw [Nat.pow_succ, ← Nat.div_div_eq_div_mul]; omega
theorem ql_here (Q i : Nat) : ql Q i (i / 64) = 2 * ql Q (i + 1) (i / 64) + Q / 2 ^ i % 2 := by
  unfold ql
  have h1 : i + 1 - 64 * (i / 64) = (i - 64 * (i / 64)) + 1 := by omega
  rw [h1]
  have hs : i - 64 * (i / 64) < 64 := by omega
  have e : Q / 2 ^ i % 2 = (Q / W64 ^ (i / 64) % W64) / 2 ^ (i - 64 * (i / 64)) % 2 := by
    have hi : 2 ^ i = W64 ^ (i / 64) * 2 ^ (i - 64 * (i / 64)) := by rw [W64_pow, ← Nat.pow_add]; congr 1; omega
    rw [hi, ← Nat.div_div_eq_div_mul]
    generalize Q / W64 ^ (i / 64) = T
    generalize i - 64 * (i / 64) = s at *
    have hw : W64 = 2 ^ s * (2 * 2 ^ (63 - s)) := by
      rw [← Nat.pow_succ', ← Nat.pow_add, show s + (63 - s + 1) = 64 from by omega]; rfl
    rw [hw, Nat.mod_mul_right_div_self, Nat.mod_mul_right_mod]
  rw [e]
  exact half_pow _ _
theorem ql_there (Q i j : Nat) (h : j ≠ i / 64) : ql Q i j = ql Q (i + 1) j := by
  unfold ql
  rcases Nat.lt_or_ge j (i / 64) with h1 | h1
  · have hb : Q / W64 ^ j % W64 < 2 ^ 64 := Nat.mod_lt _ W64_pos
    rw [Nat.div_eq_zero_iff.2, Nat.div_eq_zero_iff.2]
    · right; exact Nat.lt_of_lt_of_le hb (Nat.pow_le_pow_right (by omega) (by omega))
    · right; exact Nat.lt_of_lt_of_le hb (Nat.pow_le_pow_right (by omega) (by omega))
  · rw [show i - 64 * j = 0 from by omega, show i + 1 - 64 * j = 0 from by omega]
theorem qrow_step (Q i n : Nat) (_ : i / 64 < n) : (qrow Q (i + 1) n).set (i / 64) (2 * ql Q (i + 1) (i / 64) + Q / 2 ^ i % 2) = qrow Q i n := by
  apply List.ext_getElem (by simp [qrow])
  intro j h1 h2
  rw [List.getElem_set]
  unfold qrow at *
  by_cases hj : i / 64 = j
  · rw [if_pos hj]; subst hj
    rw [List.getElem_map, List.getElem_range, ql_here]
  · rw [if_neg hj, List.getElem_map, List.getElem_map, List.getElem_range, ql_there _ _ _ (fun e => hj e.symm)]
theorem ql_dbl (Q i : Nat) : 2 * ql Q (i + 1) (i / 64) + 1 < W64 := by
  unfold ql
  have h : Q / W64 ^ (i / 64) % W64 < W64 := Nat.mod_lt _ W64_pos
  have h1 : i + 1 - 64 * (i / 64) = (i - 64 * (i / 64)) + 1 := by omega
  rw [h1, Nat.pow_succ']
  generalize Q / W64 ^ (i / 64) % W64 = x at *
  rw [← Nat.div_div_eq_div_mul]
  have : x / 2 / 2 ^ (i - 64 * (i / 64)) ≤ x / 2 := Nat.div_le_self _ _
  unfold W64 at *
  omega
theorem dbl_div (x y c b : Nat) (hb : 0 < b) (hc : c ≤ 1) (h : y = 2 * x + c) :
    (b ≤ 2 * (x % b) + c → y % b = 2 * (x % b) + c - b ∧ y / b = 2 * (x / b) + 1) ∧ (2 * (x % b) + c < b → y % b = 2 * (x % b) + c ∧ y / b = 2 * (x / b)) := by
  have hr := Nat.mod_lt x hb
  have hx := Nat.div_add_mod x b
  generalize x / b = q at *
  generalize x % b = r at *
  have hy : y = b * (2 * q) + (2 * r + c) := by rw [h, ← hx, Nat.mul_left_comm]; omega
  constructor
  · intro hle
    have hy2 : y = (2 * r + c - b) + b * (2 * q + 1) := by rw [hy, Nat.mul_succ]; omega
    exact ⟨by rw [hy2, Nat.add_mul_mod_self_left, Nat.mod_eq_of_lt (by omega)], by rw [hy2, Nat.add_mul_div_left _ _ hb, Nat.div_eq_of_lt (by omega)]; omega⟩
  · intro hlt
    have hy2 : y = (2 * r + c) + b * (2 * q) := by omega
    exact ⟨by rw [hy2, Nat.add_mul_mod_self_left, Nat.mod_eq_of_lt hlt], by rw [hy2, Nat.add_mul_div_left _ _ hb, Nat.div_eq_of_lt hlt]; omega⟩
/-- one step of a division by binary figures -/
theorem div_step (a b i r : Nat) (hb : 0 < b) (hr : r = a / 2 ^ (i + 1) % b) :
    (b ≤ r + r + a / 2 ^ i % 2 → r + r + a / 2 ^ i % 2 - b = a / 2 ^ i % b ∧ a / b / 2 ^ i % 2 = 1) ∧
    (r + r + a / 2 ^ i % 2 < b → r + r + a / 2 ^ i % 2 = a / 2 ^ i % b ∧ a / b / 2 ^ i % 2 = 0) := by
  have h1 := half_pow a i
  have h2 : a / b / 2 ^ i = a / 2 ^ i / b := by rw [Nat.div_div_eq_div_mul, Nat.div_div_eq_div_mul, Nat.mul_comm]
  rw [h2]
  clear h2
  have hc : a / 2 ^ i % 2 ≤ 1 := by omega
  generalize a / 2 ^ (i + 1) = x at *
  generalize a / 2 ^ i = y at *
  generalize y % 2 = c at *
  obtain ⟨k1, k2⟩ := dbl_div x y c b hb hc h1
  rw [← hr] at k1 k2
  constructor
  · intro h
    obtain ⟨e1, e2⟩ := k1 (by omega)
    exact ⟨by omega, by omega⟩
  · intro h
    obtain ⟨e1, e2⟩ := k2 (by omega)
    exact ⟨by omega, by omega⟩
theorem start_shift (a b : Nat) (hb : 0 < b) : a / 2 ^ (bl a - bl b + 1) % b = a / 2 ^ (bl a - bl b + 1) ∧ a / b < 2 ^ (bl a - bl b + 1) := by
  have h1 := lt_bl a
  have h2 := bl_le (n := b) (by omega)
  have h3 : 1 ≤ bl b := by
    rcases Nat.eq_zero_or_pos (bl b) with h | h
    · rw [bl_eq_zero] at h; omega
    · exact h
  have h4 : a < 2 ^ (bl a - bl b + 1) * 2 ^ (bl b - 1) := by
    rw [← Nat.pow_add]; exact Nat.lt_of_lt_of_le h1 (Nat.pow_le_pow_right (by omega) (by omega))
  constructor
  · apply Nat.mod_eq_of_lt
    refine Nat.lt_of_lt_of_le ?_ h2
    rw [Nat.div_lt_iff_lt_mul (Nat.pow_pos (by omega)), Nat.mul_comm]; exact h4
  · rw [Nat.div_lt_iff_lt_mul hb]
    exact Nat.lt_of_lt_of_le h4 (Nat.mul_le_mul_left _ h2)
theorem start_full (a b : Nat) : 0 = a / 2 ^ bl a % b ∧ a / b < 2 ^ bl a :=
  ⟨by rw [Nat.div_eq_of_lt (lt_bl a)]; simp, Nat.lt_of_le_of_lt (Nat.div_le_self _ _) (lt_bl a)⟩
theorem less_bl {a b : Nat} (h : bl a < bl b) : a < b := by
  rcases Nat.lt_or_ge a b with h1 | h1
  · exact h1
  · have := bl_mono h1; omega
/-- a limb of a number that is moved down -/
theorem shr_step (T : Nat) : T % W64 / 2 + T / W64 % 2 * 9223372036854775808 = T / 2 % W64 := by unfold W64; omega
theorem shr_limb (a n i : Nat) (h : n / 64 ≤ i) : (a / W64 ^ i % W64 + W64 * (a / W64 ^ (i + 1) % W64)) / 2 ^ (n % 64) % W64 = a / 2 ^ n / W64 ^ (i - n / 64) % W64 := by
  have e1 : a / W64 ^ (i + 1) = a / W64 ^ i / W64 := by rw [Nat.pow_succ, ← Nat.div_div_eq_div_mul]
  have e2 : a / 2 ^ n / W64 ^ (i - n / 64) = a / W64 ^ i / 2 ^ (n % 64) := by
    rw [Nat.div_div_eq_div_mul, Nat.div_div_eq_div_mul]
    congr 1
    rw [W64_pow, W64_pow, ← Nat.pow_add, ← Nat.pow_add]
    congr 1; omega
  rw [e1, e2, ← Nat.mod_mul]
  generalize a / W64 ^ i = T
  have hs : n % 64 < 64 := Nat.mod_lt _ (by omega)
  generalize n % 64 = s at *
  have hw : W64 * W64 = 2 ^ s * (W64 * 2 ^ (64 - s)) := by
    rw [Nat.mul_left_comm, ← Nat.pow_add, show s + (64 - s) = 64 from by omega]; rfl
  rw [hw, Nat.mod_mul_right_div_self, Nat.mod_mul_right_mod]
theorem shr_end (a n L : Nat) (h : a < W64 ^ L) : num ((List.range (L - n / 64)).map fun j => a / 2 ^ n / W64 ^ j % W64) = a / 2 ^ n := by
  rw [num_range]
  apply Nat.mod_eq_of_lt
  rw [Nat.div_lt_iff_lt_mul (Nat.pow_pos (by omega))]
  refine Nat.lt_of_lt_of_le h ?_
  rw [W64_pow, W64_pow, ← Nat.pow_add]
  exact Nat.pow_le_pow_right (by omega) (by omega)
theorem pow_row (n : Nat) : num ((zeros (n / 64 + 1)).set (n / 64) (2 ^ (n % 64))) = 2 ^ n ∧ Bd ((zeros (n / 64 + 1)).set (n / 64) (2 ^ (n % 64))) ∧ Rt ((zeros (n / 64 + 1)).set (n / 64) (2 ^ (n % 64))) := by
  have hp : 2 ^ (n % 64) < W64 := Nat.pow_lt_pow_right (a := 2) (m := n % 64) (n := 64) (by omega) (Nat.mod_lt _ (by omega))
  refine ⟨?_, (Bd.zeros _).set _ hp, .inr ?_⟩
  · have := num_set (zeros (n / 64 + 1)) (n / 64) (2 ^ (n % 64)) (by rw [zeros_len]; omega)
    rw [lat_zeros, num_zeros, Nat.mul_zero, Nat.add_zero, Nat.zero_add, W64_pow, ← Nat.pow_add] at this
    rw [this]; congr 1; omega
  · rw [lat_set, List.length_set, zeros_len, if_pos ⟨by omega, by omega⟩]
    have : 0 < 2 ^ (n % 64) := Nat.pow_pos (by omega)
    omega
end Go.Proofs.YtooonjcpdbbniaaDoor
namespace Go.Proofs.YtooonjcpdbbniaaDoor
open Go.RowKit

theorem quo64 (n : Nat) : ((n : Nat) : Int).tdiv 64 = ((n / 64 : Nat) : Int) := by rw [Int.tdiv_eq_ediv_of_nonneg (by omega)]; omega
theorem rem64 (n : Nat) : ((n : Nat) : Int).tmod 64 = ((n % 64 : Nat) : Int) := by rw [Int.tmod_eq_emod_of_nonneg (by omega)]; omega
theorem IsN.of_row {w : World} {g n : Nat} {l : List Nat} (h : Arr w g l) (hb : Bd l) (hr : Rt l) (hn : num l = n) (hl : l.length ≤ 10000000) : IsN w (.slice (some ⟨g, 0, none⟩) l.length l.length) n := by
  have := h.isL hb (by omega)
  unfold IsN; rw [← hn, limbs_num l hb hr]; exact this

/-- a power of two that is no number of the law's -/
theorem two_pow_lt (k : Nat) (h : k < 64) : 2 ^ k < W64 := Nat.pow_lt_pow_right (a := 2) (m := k) (n := 64) (by omega) h

end Go.Proofs.YtooonjcpdbbniaaDoor
namespace Go.Proofs.YtooonjcpdbbniaaDoor
open Go.RowKit

/-- limbs of what is moved down -/
def sl (a n k : Nat) : List Nat := (List.range k).map fun j => a / 2 ^ n / W64 ^ j % W64
theorem sl_succ (a n k : Nat) : sl a n (k + 1) = sl a n k ++ [a / 2 ^ n / W64 ^ k % W64] := by simp [sl, List.range_succ]
theorem sl_len (a n k : Nat) : (sl a n k).length = k := by simp [sl]
theorem sl_bd (a n k : Nat) : Bd (sl a n k) := Bd.range _ _ (fun _ => Nat.mod_lt _ W64_pos)
theorem T64 (T : Nat) : T / W64 % 2 ≤ 1 := by omega
end Go.Proofs.YtooonjcpdbbniaaDoor
namespace Go.Proofs.YtooonjcpdbbniaaDoor
open Go.RowKit

end Go.Proofs.YtooonjcpdbbniaaDoor
namespace Go.Proofs.YtooonjcpdbbniaaDoor
open Go.RowKit

/-- what the loop of a division keeps -/
structure DivS (w : World) (va vb : Value) (a b : Nat) (l : List Nat) (g : Nat) (rv : Value) (r : Nat) : Prop where
  ha : IsN w va a
  hb : IsN w vb b
  na : va.ownBlock ≠ some g
  nb : vb.ownBlock ≠ some g
  hr : IsN w rv r
  hf : rv.ownBlock ≠ some g
  hq : Arr w g l
section
variable {w w' : World} {va vb rv : Value} {a b g r : Nat} {l : List Nat}
theorem DivS.below (h : DivS w va vb a b l g rv r) (hb : Below w.heap.size w w') : DivS w' va vb a b l g rv r :=
  ⟨h.ha.below hb, h.hb.below hb, h.na, h.nb, h.hr.below hb, h.hf, h.hq.below hb h.hq.lt⟩
theorem DivS.store (h : DivS w va vb a b l g rv r) (i x : Nat) : DivS (w.setCell ⟨g, i, none⟩ (.int .u64 (x : Int))) va vb a b (l.set i x) g rv r :=
  ⟨h.ha.far h.na _, h.hb.far h.nb _, h.na, h.nb, h.hr.far h.hf _, h.hf, h.hq.set i x⟩
theorem DivS.put (h : DivS w va vb a b l g rv r) {rv' : Value} {r' : Nat} (hr : IsN w rv' r') (hf : rv'.ownBlock ≠ some g) : DivS w va vb a b l g rv' r' :=
  ⟨h.ha, h.hb, h.na, h.nb, hr, hf, h.hq⟩
theorem IsN.old (h : IsN w rv r) (hg : w.heap.size ≤ g) (hr : (limbs r).length ≠ 0) : rv.ownBlock ≠ some g := by
  obtain ⟨A, c, rfl, h1, h2, h3, h4⟩ := h
  obtain ⟨ad, rfl, hb, _⟩ := h4.2 (by omega)
  intro e
  have : ad.block = g := by simpa [Value.ownBlock] using e
  omega
theorem Arr.far {w : World} {g : Nat} {l : List Nat} (h : Arr w g l) {p : Addr} (hp : g ≠ p.block) (u : Value) : Arr (w.setCell p u) g l := (Below.heap_setCell w p u g hp).trans h
theorem set_set (l : List Nat) (i x y : Nat) : (l.set i x).set i y = l.set i y := by simp
end

end Go.Proofs.YtooonjcpdbbniaaDoor
namespace Go.Proofs.YtooonjcpdbbniaaDoor
open Go.RowKit

end Go.Proofs.YtooonjcpdbbniaaDoor
