/- Division by binary figures, plainly: limbs of a quotient, bit by bit. No program in sight. -/
import Derived.Test.YtooonjcpdbbniaaGreatDoorMath
import Derived.Test.YtooonjcpdbbniaaGreatDoorRef2
import Derived.Deep.LoopGhost
namespace Go.Proofs.YtooonjcpdbbniaaGreatDoor

theorem lat_limbs (n j : Nat) : lat (limbs n) j = n / W64 ^ j % W64 := by
  induction j generalizing n with
  | zero =>
    by_cases h : n = 0
    · subst h; rw [limbs_zero]; simp [lat]
    · rw [limbs_pos h]; simp [lat]
  | succ j ih =>
    by_cases h : n = 0
    · subst h; rw [limbs_zero]; simp [lat]
    · rw [limbs_pos h, lat_cons_succ, ih, Nat.div_div_eq_div_mul, Nat.pow_succ, Nat.mul_comm (W64 ^ j)]
theorem num_range (Q n : Nat) : num ((List.range n).map fun j => Q / W64 ^ j % W64) = Q % W64 ^ n := by
  induction n with
  | zero => simp [num, Nat.mod_one]
  | succ n ih =>
    rw [List.range_succ, List.map_append, num_append, ih, List.map_singleton, num_single, List.length_map, List.length_range, Nat.pow_succ, Nat.mod_mul]
theorem Bd.range (g : Nat → Nat) (n : Nat) (h : ∀ j, g j < W64) : Bd ((List.range n).map g) := by
  intro x hx; obtain ⟨j, _, rfl⟩ := List.mem_map.1 hx; exact h j
theorem lat_range (g : Nat → Nat) (n j : Nat) (h : j < n) : lat ((List.range n).map g) j = g j := by simp [lat, h]
/-- the limb of a quotient, of which the lowest m figures are still to come -/
def ql (Q m j : Nat) : Nat := (Q / W64 ^ j % W64) / 2 ^ (m - 64 * j)
def qrow (Q m n : Nat) : List Nat := (List.range n).map (ql Q m)
theorem ql_lt (Q m j : Nat) : ql Q m j < W64 := Nat.lt_of_le_of_lt (Nat.div_le_self _ _) (Nat.mod_lt _ W64_pos)
theorem qrow_len (Q m n : Nat) : (qrow Q m n).length = n := by simp [qrow]
theorem qrow_bd (Q m n : Nat) : Bd (qrow Q m n) := Bd.range _ _ (ql_lt Q m)
theorem lat_qrow (Q m n j : Nat) (h : j < n) : lat (qrow Q m n) j = ql Q m j := lat_range _ _ _ h
theorem qrow_zero (Q n : Nat) (h : Q < W64 ^ n) : num (qrow Q 0 n) = Q := by
  have : qrow Q 0 n = (List.range n).map fun j => Q / W64 ^ j % W64 := by
    unfold qrow ql; simp
  rw [this, num_range, Nat.mod_eq_of_lt h]
theorem qrow_start (Q m n : Nat) (h : Q < 2 ^ m) : qrow Q m n = zeros n := by
  unfold qrow zeros
  rw [List.eq_replicate_iff]
  refine ⟨by simp, fun x hx => ?_⟩
  obtain ⟨j, _, rfl⟩ := List.mem_map.1 hx
  unfold ql
  rw [Nat.div_eq_zero_iff]
  right
  refine Nat.lt_of_le_of_lt (Nat.mod_le _ _) ?_
  rw [Nat.div_lt_iff_lt_mul (Nat.pow_pos W64_pos), W64_pow, ← Nat.pow_add]
  exact Nat.lt_of_lt_of_le h (Nat.pow_le_pow_right (by omega) (by omega))
theorem half_pow (x s : Nat) : x / 2 ^ s = 2 * (x / 2 ^ (s + 1)) + x / 2 ^ s % 2 := by
  rw [Nat.pow_succ, ← Nat.div_div_eq_div_mul]; omega
theorem ql_here (Q i : Nat) : ql Q i (i / 64) = 2 * ql Q (i + 1) (i / 64) + Q / 2 ^ i % 2 := by
  unfold ql
  have h1 : i + 1 - 64 * (i / 64) = (i - 64 * (i / 64)) + 1 := by omega
  rw [h1]
  have hs : i - 64 * (i / 64) < 64 := by omega
  have e : Q / 2 ^ i % 2 = (Q / W64 ^ (i / 64) % W64) / 2 ^ (i - 64 * (i / 64)) % 2 := by
    have hi : 2 ^ i = W64 ^ (i / 64) * 2 ^ (i - 64 * (i / 64)) := by rw [W64_pow, ← Nat.pow_add]; congr 1; omega
    rw [hi, ← Nat.div_div_eq_div_mul]
    generalize Q / W64 ^ (i / 64) = T
    generalize i - 64 * (i / 64) = s at *
    have hw : W64 = 2 ^ s * (2 * 2 ^ (63 - s)) := by
      rw [← Nat.pow_succ', ← Nat.pow_add, show s + (63 - s + 1) = 64 from by omega]; rfl
    rw [hw, Nat.mod_mul_right_div_self, Nat.mod_mul_right_mod]
  rw [e]
  exact half_pow _ _
theorem ql_there (Q i j : Nat) (h : j ≠ i / 64) : ql Q i j = ql Q (i + 1) j := by
  unfold ql
  rcases Nat.lt_or_ge j (i / 64) with h1 | h1
  · have hb : Q / W64 ^ j % W64 < 2 ^ 64 := Nat.mod_lt _ W64_pos
    rw [Nat.div_eq_zero_iff.2, Nat.div_eq_zero_iff.2]
    · right; exact Nat.lt_of_lt_of_le hb (Nat.pow_le_pow_right (by omega) (by omega))
    · right; exact Nat.lt_of_lt_of_le hb (Nat.pow_le_pow_right (by omega) (by omega))
  · rw [show i - 64 * j = 0 from by omega, show i + 1 - 64 * j = 0 from by omega]
theorem qrow_step (Q i n : Nat) (_ : i / 64 < n) : (qrow Q (i + 1) n).set (i / 64) (2 * ql Q (i + 1) (i / 64) + Q / 2 ^ i % 2) = qrow Q i n := by
  apply List.ext_getElem (by simp [qrow])
  intro j h1 h2
  rw [List.getElem_set]
  unfold qrow at *
  by_cases hj : i / 64 = j
  · rw [if_pos hj]; subst hj
    rw [List.getElem_map, List.getElem_range, ql_here]
  · rw [if_neg hj, List.getElem_map, List.getElem_map, List.getElem_range, ql_there _ _ _ (fun e => hj e.symm)]
theorem ql_dbl (Q i : Nat) : 2 * ql Q (i + 1) (i / 64) + 1 < W64 := by
  unfold ql
  have h : Q / W64 ^ (i / 64) % W64 < W64 := Nat.mod_lt _ W64_pos
  have h1 : i + 1 - 64 * (i / 64) = (i - 64 * (i / 64)) + 1 := by omega
  rw [h1, Nat.pow_succ']
  generalize Q / W64 ^ (i / 64) % W64 = x at *
  rw [← Nat.div_div_eq_div_mul]
  have : x / 2 / 2 ^ (i - 64 * (i / 64)) ≤ x / 2 := Nat.div_le_self _ _
  unfold W64 at *
  omega
theorem dbl_div (x y c b : Nat) (hb : 0 < b) (hc : c ≤ 1) (h : y = 2 * x + c) :
    (b ≤ 2 * (x % b) + c → y % b = 2 * (x % b) + c - b ∧ y / b = 2 * (x / b) + 1) ∧ (2 * (x % b) + c < b → y % b = 2 * (x % b) + c ∧ y / b = 2 * (x / b)) := by
  have hr := Nat.mod_lt x hb
  have hx := Nat.div_add_mod x b
  generalize x / b = q at *
  generalize x % b = r at *
  have hy : y = b * (2 * q) + (2 * r + c) := by rw [h, ← hx, Nat.mul_left_comm]; omega
  constructor
  · intro hle
    have hy2 : y = (2 * r + c - b) + b * (2 * q + 1) := by rw [hy, Nat.mul_succ]; omega
    exact ⟨by rw [hy2, Nat.add_mul_mod_self_left, Nat.mod_eq_of_lt (by omega)], by rw [hy2, Nat.add_mul_div_left _ _ hb, Nat.div_eq_of_lt (by omega)]; omega⟩
  · intro hlt
    have hy2 : y = (2 * r + c) + b * (2 * q) := by omega
    exact ⟨by rw [hy2, Nat.add_mul_mod_self_left, Nat.mod_eq_of_lt hlt], by rw [hy2, Nat.add_mul_div_left _ _ hb, Nat.div_eq_of_lt hlt]; omega⟩
/-- one step of a division by binary figures -/
theorem div_step (a b i r : Nat) (hb : 0 < b) (hr : r = a / 2 ^ (i + 1) % b) :
    (b ≤ r + r + a / 2 ^ i % 2 → r + r + a / 2 ^ i % 2 - b = a / 2 ^ i % b ∧ a / b / 2 ^ i % 2 = 1) ∧
    (r + r + a / 2 ^ i % 2 < b → r + r + a / 2 ^ i % 2 = a / 2 ^ i % b ∧ a / b / 2 ^ i % 2 = 0) := by
  have h1 := half_pow a i
  have h2 : a / b / 2 ^ i = a / 2 ^ i / b := by rw [Nat.div_div_eq_div_mul, Nat.div_div_eq_div_mul, Nat.mul_comm]
  rw [h2]
  clear h2
  have hc : a / 2 ^ i % 2 ≤ 1 := by omega
  generalize a / 2 ^ (i + 1) = x at *
  generalize a / 2 ^ i = y at *
  generalize y % 2 = c at *
  obtain ⟨k1, k2⟩ := dbl_div x y c b hb hc h1
  rw [← hr] at k1 k2
  constructor
  · intro h
    obtain ⟨e1, e2⟩ := k1 (by omega)
    exact ⟨by omega, by omega⟩
  · intro h
    obtain ⟨e1, e2⟩ := k2 (by omega)
    exact ⟨by omega, by omega⟩
theorem start_shift (a b : Nat) (hb : 0 < b) : a / 2 ^ (bl a - bl b + 1) % b = a / 2 ^ (bl a - bl b + 1) ∧ a / b < 2 ^ (bl a - bl b + 1) := by
  have h1 := lt_bl a
  have h2 := bl_le (n := b) (by omega)
  have h3 : 1 ≤ bl b := by
    rcases Nat.eq_zero_or_pos (bl b) with h | h
    · rw [bl_eq_zero] at h; omega
    · exact h
  have h4 : a < 2 ^ (bl a - bl b + 1) * 2 ^ (bl b - 1) := by
    rw [← Nat.pow_add]; exact Nat.lt_of_lt_of_le h1 (Nat.pow_le_pow_right (by omega) (by omega))
  constructor
  · apply Nat.mod_eq_of_lt
    refine Nat.lt_of_lt_of_le ?_ h2
    rw [Nat.div_lt_iff_lt_mul (Nat.pow_pos (by omega)), Nat.mul_comm]; exact h4
  · rw [Nat.div_lt_iff_lt_mul hb]
    exact Nat.lt_of_lt_of_le h4 (Nat.mul_le_mul_left _ h2)
theorem start_full (a b : Nat) : 0 = a / 2 ^ bl a % b ∧ a / b < 2 ^ bl a :=
  ⟨by rw [Nat.div_eq_of_lt (lt_bl a)]; simp, Nat.lt_of_le_of_lt (Nat.div_le_self _ _) (lt_bl a)⟩
theorem less_bl {a b : Nat} (h : bl a < bl b) : a < b := by
  rcases Nat.lt_or_ge a b with h1 | h1
  · exact h1
  · have := bl_mono h1; omega
/-- a limb of a number that is moved down -/
theorem shr_step (T : Nat) : T % W64 / 2 + T / W64 % 2 * 9223372036854775808 = T / 2 % W64 := by unfold W64; omega
theorem shr_limb (a n i : Nat) (h : n / 64 ≤ i) : (a / W64 ^ i % W64 + W64 * (a / W64 ^ (i + 1) % W64)) / 2 ^ (n % 64) % W64 = a / 2 ^ n / W64 ^ (i - n / 64) % W64 := by
  have e1 : a / W64 ^ (i + 1) = a / W64 ^ i / W64 := by rw [Nat.pow_succ, ← Nat.div_div_eq_div_mul]
  have e2 : a / 2 ^ n / W64 ^ (i - n / 64) = a / W64 ^ i / 2 ^ (n % 64) := by
    rw [Nat.div_div_eq_div_mul, Nat.div_div_eq_div_mul]
    congr 1
    rw [W64_pow, W64_pow, ← Nat.pow_add, ← Nat.pow_add]
    congr 1; omega
  rw [e1, e2, ← Nat.mod_mul]
  generalize a / W64 ^ i = T
  have hs : n % 64 < 64 := Nat.mod_lt _ (by omega)
  generalize n % 64 = s at *
  have hw : W64 * W64 = 2 ^ s * (W64 * 2 ^ (64 - s)) := by
    rw [Nat.mul_left_comm, ← Nat.pow_add, show s + (64 - s) = 64 from by omega]; rfl
  rw [hw, Nat.mod_mul_right_div_self, Nat.mod_mul_right_mod]
theorem shr_end (a n L : Nat) (h : a < W64 ^ L) : num ((List.range (L - n / 64)).map fun j => a / 2 ^ n / W64 ^ j % W64) = a / 2 ^ n := by
  rw [num_range]
  apply Nat.mod_eq_of_lt
  rw [Nat.div_lt_iff_lt_mul (Nat.pow_pos (by omega))]
  refine Nat.lt_of_lt_of_le h ?_
  rw [W64_pow, W64_pow, ← Nat.pow_add]
  exact Nat.pow_le_pow_right (by omega) (by omega)
theorem pow_row (n : Nat) : num ((zeros (n / 64 + 1)).set (n / 64) (2 ^ (n % 64))) = 2 ^ n ∧ Bd ((zeros (n / 64 + 1)).set (n / 64) (2 ^ (n % 64))) ∧ Rt ((zeros (n / 64 + 1)).set (n / 64) (2 ^ (n % 64))) := by
  have hp : 2 ^ (n % 64) < W64 := Nat.pow_lt_pow_right (a := 2) (m := n % 64) (n := 64) (by omega) (Nat.mod_lt _ (by omega))
  refine ⟨?_, (Bd.zeros _).set _ hp, .inr ?_⟩
  · have := num_set (zeros (n / 64 + 1)) (n / 64) (2 ^ (n % 64)) (by rw [zeros_len]; omega)
    rw [lat_zeros, num_zeros, Nat.mul_zero, Nat.add_zero, Nat.zero_add, W64_pow, ← Nat.pow_add] at this
    rw [this]; congr 1; omega
  · rw [lat_set, List.length_set, zeros_len, if_pos ⟨by omega, by omega⟩]
    have : 0 < 2 ^ (n % 64) := Nat.pow_pos (by omega)
    omega
end Go.Proofs.YtooonjcpdbbniaaGreatDoor
namespace Go.Proofs.YtooonjcpdbbniaaGreatDoor
open Go.RowKit

theorem quo64 (n : Nat) : ((n : Nat) : Int).tdiv 64 = ((n / 64 : Nat) : Int) := by rw [Int.tdiv_eq_ediv_of_nonneg (by omega)]; omega
theorem rem64 (n : Nat) : ((n : Nat) : Int).tmod 64 = ((n % 64 : Nat) : Int) := by rw [Int.tmod_eq_emod_of_nonneg (by omega)]; omega
theorem IsN.of_row {w : World} {g n : Nat} {l : List Nat} (h : Arr w g l) (hb : Bd l) (hr : Rt l) (hn : num l = n) (hl : l.length ≤ 10000000) : IsN w (.slice (some ⟨g, 0, none⟩) l.length l.length) n := by
  have := h.isL hb (by omega)
  unfold IsN; rw [← hn, limbs_num l hb hr]; exact this

/-- a power of two that is no number of the law's -/
theorem two_pow_lt (k : Nat) (h : k < 64) : 2 ^ k < W64 := Nat.pow_lt_pow_right (a := 2) (m := k) (n := 64) (by omega) h

set_option maxHeartbeats 1000000 in
theorem bit_any (v : Value) (a i : Nat) (w : World) (h : IsN w v a) (hl : i / 64 < (limbs a).length) (hi64 : i ≤ 1000000000) :
    Calls Tryz.prog 84 #[v, .int .i64 i] w fun e w' => e = .returned (.int .u64 ((a / 2 ^ i % 2 : Nat) : Int)) ∧ w = w' := by
  obtain ⟨A, c, rfl, hlc, hc, hbd, hr⟩ := h
  have e : a / 2 ^ i % 2 = lat (limbs a) (i / 64) / 2 ^ (i % 64) % 2 := by
    rw [lat_limbs]
    have hi : 2 ^ i = W64 ^ (i / 64) * 2 ^ (i % 64) := by rw [W64_pow, ← Nat.pow_add]; congr 1; omega
    rw [hi, ← Nat.div_div_eq_div_mul]
    generalize a / W64 ^ (i / 64) = T
    have hs : i % 64 < 64 := Nat.mod_lt _ (by omega)
    generalize i % 64 = s at *
    have hw : W64 = 2 ^ s * (2 * 2 ^ (63 - s)) := by
      rw [← Nat.pow_succ', ← Nat.pow_add, show s + (63 - s + 1) = 64 from by omega]; rfl
    rw [hw, Nat.mod_mul_right_div_self, Nat.mod_mul_right_mod]
  rw [e]
  clear e
  obtain ⟨ad, rfl, _, hx⟩ := us_cell hr (k := i / 64) hl
  have hb := hbd.lat (i / 64)
  generalize lat (limbs a) (i / 64) = x at *
  generalize (limbs a).length = m at *
  obtain ⟨z, hz⟩ : ∃ z, z = x / 2 ^ (i % 64) % 2 := ⟨_, rfl⟩
  have Z := Lib.hid hz
  rw [← hz]
  clear hz
  have g0 : (0 : Int) ≤ (i : Int) / 64 := by omega
  have g1 : (i : Int) / 64 < (m : Int) := by omega
  have g2 : ((i : Int) / 64).toNat = i / 64 := by omega
  have hm : (m : Int) ≤ 9223372036854775807 := by omega
  have hi : (i : Int) ≤ 9223372036854775807 := by omega
  go_enter Tryz.func84, Tryz.ntmps84
  go_wp2
  go_loop [5, 6] (fun o i' => ∃ (k y : Nat), k ≤ i % 64 ∧ i' = .int .i64 k ∧ o = .int .u64 (y : Int) ∧ (y : Int) ≤ 18446744073709551615 ∧ Hid (y = x / 2 ^ k)) (fun _ i' => i % 64 - (intOf i').toNat)
  case atStart => exact ⟨0, x, by omega, rfl, rfl, by unfold W64 at hb; omega, Lib.hid (by simp)⟩
  case round =>
    obtain ⟨k, y, hk, rfl, rfl, hy, hyx⟩ := hrel
    by_cases hlt : k < i % 64
    · have h1 : (k : Int) < (i : Int) % 64 := by omega
      have hn : Hid (y / 2 = x / 2 ^ (k + 1)) := by rw [Hid, hyx.out, Nat.pow_succ, Nat.div_div_eq_div_mul]
      go_wp2
      go_round
      case rel => exact ⟨k + 1, y / 2, by omega, by go_num, by go_num, by omega, hn⟩
      case measure => simp [intOf]; omega
    · obtain rfl : k = i % 64 := by omega
      have h1 : ¬ (((i % 64 : Nat) : Int) < (i : Int) % 64) := by omega
      go_wp2
      go_ret
      exact ⟨ret_int (by rw [Z.out, ← hyx.out]; omega), rfl⟩
end Go.Proofs.YtooonjcpdbbniaaGreatDoor
namespace Go.Proofs.YtooonjcpdbbniaaGreatDoor
open Go.RowKit

theorem shr_bad (v : Value) (n : Int) (h : n < 0 ∨ 20000 < n) (w : World) :
    Calls Tryz.prog 83 #[v, .int .i64 n] w fun e w' => e = .returned (.tuple #[.slice none 0 0, .int .i64 1]) ∧ w = w' := by
  rcases h with h | h
  · go_enter Tryz.func83, Tryz.ntmps83
    go_wp2
    go_ret2
    exact ⟨rfl, rfl⟩
  · have h' : ¬ n < 0 := by omega
    go_enter Tryz.func83, Tryz.ntmps83
    go_wp2
    go_ret2
    exact ⟨rfl, rfl⟩
/-- limbs of what is moved down -/
def sl (a n k : Nat) : List Nat := (List.range k).map fun j => a / 2 ^ n / W64 ^ j % W64
theorem sl_succ (a n k : Nat) : sl a n (k + 1) = sl a n k ++ [a / 2 ^ n / W64 ^ k % W64] := by simp [sl, List.range_succ]
theorem sl_len (a n k : Nat) : (sl a n k).length = k := by simp [sl]
theorem sl_bd (a n k : Nat) : Bd (sl a n k) := Bd.range _ _ (fun _ => Nat.mod_lt _ W64_pos)
theorem T64 (T : Nat) : T / W64 % 2 ≤ 1 := by omega
set_option maxHeartbeats 2000000 in
theorem shr_f (v : Value) (a n : Nat) (hn : n ≤ 20000) (w : World) (h : IsN w v a) (hl : Sz a 1000000) :
    Calls Tryz.prog 83 #[v, .int .i64 n] w fun e w' => ∃ v', e = .returned (.tuple #[v', .int .i64 0]) ∧ IsN w' v' (a / 2 ^ n) ∧ Below w.heap.size w w' ∧ Fresh w.heap.size v' := by
  obtain ⟨A, c, rfl, hlc, hc, hbd, hr⟩ := h
  have HE := Lib.hid (shr_end a n (limbs a).length (by have := num_lt _ (limbs_bd a); rwa [num_limbs] at this))
  have HX := Lib.hid (fun i => lat_limbs a i)
  have HS := Lib.hid (fun i h => shr_limb a n i h)
  have hL : (limbs a).length ≤ 1000000 := hl
  clear hl
  obtain ⟨L, hLL⟩ : ∃ L, L = (limbs a).length := ⟨_, rfl⟩
  rw [← hLL] at HE hL hlc hr ⊢
  have HLL := Lib.hid hLL
  clear hLL
  have hL' : (L : Int) ≤ 1000000 := by omega
  have hown0 := World.ownsRow_lit w #[] 0 (base := w.heap.size) (e := 44) (size := 1) (Nat.le_refl _) (by unfold maxLen; omega) rfl
  go_enter Tryz.func83, Tryz.ntmps83
  go_wp2
  go_loopw [6, 7] (fun o i wr => ∃ (k : Nat), i = .int .i64 ((n : Int) / 64 + (k : Int)) ∧ (k = 0 ∨ n / 64 + k ≤ L) ∧ wr.ownsRow w.heap.size 44 1 o (sl a n k).length (us (sl a n k)) ∧ Below w.heap.size w wr) (fun _ i _ => L - (intOf i).toNat)
  case atStart => exact ⟨0, by simp, .inl rfl, hown0, (Below.refl _ w).alloc (Nat.le_refl _) _⟩
  case round =>
    obtain ⟨k, rfl, hk, hown, hB⟩ := hrel
    by_cases hlt : n / 64 + k < L
    · have hS := HS.out (n / 64 + k) (by omega)
      rw [show n / 64 + k - n / 64 = k from by omega] at hS
      obtain ⟨ad, rfl, _, hx⟩ := us_cell (hr.below hB) hlt
      have g0 : (0 : Int) ≤ (n : Int) / 64 + (k : Int) := by omega
      have g1 : (n : Int) / 64 + (k : Int) < (L : Int) := by omega
      have g2 : ((n : Int) / 64 + (k : Int)).toNat = n / 64 + k := by omega
      have hxb := hbd.lat (n / 64 + k)
      have hyb := hbd.lat (n / 64 + k + 1)
      have e1 := HX.out (n / 64 + k)
      have e2 := HX.out (n / 64 + k + 1)
      rw [← e1, ← e2] at hS
      clear e1 e2
      have hsucc := sl_succ a n k
      rw [← hS] at hsucc
      have HSU := Lib.hid hsucc
      clear hS hsucc
      have hy0 : ¬ (n / 64 + k + 1 < L) → lat (limbs a) (n / 64 + k + 1) = 0 := fun h => lat_ge (by have := HLL.out; omega)
      have hyc : n / 64 + k + 1 < L → wr.cell? (ad.add (n / 64 + k + 1)) = some (.int .u64 (lat (limbs a) (n / 64 + k + 1) : Nat)) := fun h => by
        obtain ⟨ad2, e, _, hy⟩ := us_cell (hr.below hB) h
        cases e; exact hy
      generalize lat (limbs a) (n / 64 + k) = x at *
      generalize lat (limbs a) (n / 64 + k + 1) = y at *
      obtain ⟨X, hX⟩ : ∃ X, X = x + W64 * y := ⟨_, rfl⟩
      have X1 : Hid (X % W64 = x ∧ X / W64 = y) := by rw [Hid, hX]; unfold W64 at *; omega
      rw [← hX] at HSU
      clear hX
      by_cases h2 : n / 64 + k + 1 < L
      · have hyc := hyc h2
        have g3 : (n : Int) / 64 + (k : Int) + 1 < (L : Int) := by omega
        have g4 : ((n : Int) / 64 + (k : Int) + 1).toNat = n / 64 + k + 1 := by omega
        clear hy0
        rw [Addr.add, if_neg (by omega)] at hyc
        have hxb' : (x : Int) ≤ 18446744073709551615 := by unfold W64 at hxb; omega
        have hyb' : (y : Int) ≤ 18446744073709551615 := by unfold W64 at hyb; omega
        go_wp2
        obtain ⟨wo, rfl⟩ : ∃ wo : World, wo = wr := ⟨_, rfl⟩
        go_loop [8, 9, 10] (fun xo yo io => ∃ (j : Nat) (x' y' : Nat), j ≤ n % 64 ∧ io = .int .i64 j ∧ xo = .int .u64 (x' : Int) ∧ yo = .int .u64 (y' : Int) ∧ (x' : Int) ≤ 18446744073709551615 ∧ (y' : Int) ≤ 18446744073709551615 ∧ Hid (X / 2 ^ j % W64 = x' ∧ X / 2 ^ j / W64 = y')) (fun _ _ io => n % 64 - (intOf io).toNat)
        case atStart => exact ⟨0, _, _, by omega, rfl, rfl, rfl, hxb', hyb', by have := X1.out; simpa [Hid] using this⟩
        case round =>
          obtain ⟨j, x', y', hj, rfl, rfl, rfl, hx', hy', hI⟩ := hrel
          by_cases hjt : j < n % 64
          · have q1 : (j : Int) < (n : Int) % 64 := by omega
            have hN : Hid (X / 2 ^ (j + 1) % W64 = x' / 2 + y' % 2 * 9223372036854775808 ∧ X / 2 ^ (j + 1) / W64 = y' / 2) := by
              obtain ⟨i1, i2⟩ := hI.out
              rw [Hid, Nat.pow_succ, ← Nat.div_div_eq_div_mul]
              generalize X / 2 ^ j = T at *
              unfold W64 at *
              omega
            have b1 : (y' : Int) % 2 * 9223372036854775808 ≤ 18446744073709551615 := by omega
            have b2 : (x' : Int) / 2 + (y' : Int) % 2 * 9223372036854775808 ≤ 18446744073709551615 := by omega
            go_wp2
            go_round
            case rel => exact ⟨j + 1, x' / 2 + y' % 2 * 9223372036854775808, y' / 2, by omega, by go_num, by go_num, by go_num, by omega, by omega, hN⟩
            case measure => simp [intOf]; omega
          · obtain rfl : j = n % 64 := by omega
            have q1 : ¬ (((n % 64 : Nat) : Int) < (n : Int) % 64) := by omega
            have hx'' := hI.out.1
            rw [hx''] at HSU
            clear hx''
            go_wp2_with (at_builtin; go_must (refine wpList_app1 _ rfl _ _ 23 44 (.int .u64 0) 8 rfl Tryz.underlying23 info_u64 rfl w.heap.size (.int .u64 (x' : Int)) rfl _ (sl a n k).length (us (sl a n k)) rfl (hown.alloc _) ⟨wo.heap.size, 0, none⟩ rfl (by exact new_cell _ _ _) (by rw [sl_len]; omega) (by omega) (by simp; exact Nat.le_succ_of_le hB.size) ?_; intro v' w1 hown' hgrow))
            refine ⟨⟨k + 1, by go_num, .inr (by omega), ?_, (hB.alloc hB.size _).grown hgrow (by simp; exact Nat.le_succ_of_le hB.size) (fun j e => (hown.lt j e).1)⟩, by simp [intOf]; omega⟩
            rw [HSU.out, us_snoc, List.length_append, List.length_singleton]
            exact hown'
      · obtain rfl := hy0 h2
        have g3 : ¬ ((n : Int) / 64 + (k : Int) + 1 < (L : Int)) := by omega
        clear hyc hy0
        have hxb' : (x : Int) ≤ 18446744073709551615 := by unfold W64 at hxb; omega
        have hyb' : ((0 : Nat) : Int) ≤ 18446744073709551615 := by omega
        go_wp2
        obtain ⟨wo, rfl⟩ : ∃ wo : World, wo = wr := ⟨_, rfl⟩
        go_loop [8, 9, 10] (fun xo yo io => ∃ (j : Nat) (x' y' : Nat), j ≤ n % 64 ∧ io = .int .i64 j ∧ xo = .int .u64 (x' : Int) ∧ yo = .int .u64 (y' : Int) ∧ (x' : Int) ≤ 18446744073709551615 ∧ (y' : Int) ≤ 18446744073709551615 ∧ Hid (X / 2 ^ j % W64 = x' ∧ X / 2 ^ j / W64 = y')) (fun _ _ io => n % 64 - (intOf io).toNat)
        case atStart => exact ⟨0, _, _, by omega, rfl, rfl, rfl, hxb', hyb', by have := X1.out; simpa [Hid] using this⟩
        case round =>
          obtain ⟨j, x', y', hj, rfl, rfl, rfl, hx', hy', hI⟩ := hrel
          by_cases hjt : j < n % 64
          · have q1 : (j : Int) < (n : Int) % 64 := by omega
            have hN : Hid (X / 2 ^ (j + 1) % W64 = x' / 2 + y' % 2 * 9223372036854775808 ∧ X / 2 ^ (j + 1) / W64 = y' / 2) := by
              obtain ⟨i1, i2⟩ := hI.out
              rw [Hid, Nat.pow_succ, ← Nat.div_div_eq_div_mul]
              generalize X / 2 ^ j = T at *
              unfold W64 at *
              omega
            have b1 : (y' : Int) % 2 * 9223372036854775808 ≤ 18446744073709551615 := by omega
            have b2 : (x' : Int) / 2 + (y' : Int) % 2 * 9223372036854775808 ≤ 18446744073709551615 := by omega
            go_wp2
            go_round
            case rel => exact ⟨j + 1, x' / 2 + y' % 2 * 9223372036854775808, y' / 2, by omega, by go_num, by go_num, by go_num, by omega, by omega, hN⟩
            case measure => simp [intOf]; omega
          · obtain rfl : j = n % 64 := by omega
            have q1 : ¬ (((n % 64 : Nat) : Int) < (n : Int) % 64) := by omega
            have hx'' := hI.out.1
            rw [hx''] at HSU
            clear hx''
            go_wp2_with (at_builtin; go_must (refine wpList_app1 _ rfl _ _ 23 44 (.int .u64 0) 8 rfl Tryz.underlying23 info_u64 rfl w.heap.size (.int .u64 (x' : Int)) rfl _ (sl a n k).length (us (sl a n k)) rfl (hown.alloc _) ⟨wo.heap.size, 0, none⟩ rfl (by exact new_cell _ _ _) (by rw [sl_len]; omega) (by omega) (by simp; exact Nat.le_succ_of_le hB.size) ?_; intro v' w1 hown' hgrow))
            refine ⟨⟨k + 1, by go_num, .inr (by omega), ?_, (hB.alloc hB.size _).grown hgrow (by simp; exact Nat.le_succ_of_le hB.size) (fun j e => (hown.lt j e).1)⟩, by simp [intOf]; omega⟩
            rw [HSU.out, us_snoc, List.length_append, List.length_singleton]
            exact hown'
    · have g1 : ¬ ((n : Int) / 64 + (k : Int) < (L : Int)) := by omega
      have hres : IsL wr u6 (sl a n k) := IsL.of_own hown (sl_bd _ _ _)
      have hnum : num (sl a n k) = a / 2 ^ n := by
        have := HE.out
        by_cases h0 : n / 64 + k ≤ L
        · rw [show L - n / 64 = k from by omega] at this; exact this
        · obtain rfl : k = 0 := by omega
          rw [show L - n / 64 = 0 from by omega] at this; exact this
      have hk10 : (sl a n k).length ≤ 10000000 := by rw [sl_len]; omega
      have HN := Lib.hid hnum
      clear hnum
      go_wp2_with fail
      refine (rbare_f _ _ _ hres hk10).mono ?_
      rintro e w' ⟨r, rfl, hr, hb, hf⟩
      go_wp2
      go_ret2
      exact ⟨_, rfl, by rw [← HN.out]; exact hr, hB.trans (hb.mono hB.size), hf.more hB.size⟩
theorem shr_any (v : Value) (a n : Nat) (hn : n ≤ 20000) (w : World) (h : IsN w v a) (hl : Sz a 1000000) :
    Calls Tryz.prog 83 #[v, .int .i64 n] w fun e w' => ∃ v', e = .returned (.tuple #[v', .int .i64 0]) ∧ IsN w' v' (a / 2 ^ n) ∧ Below w.heap.size w w' :=
  (shr_f v a n hn w h hl).mono fun _ _ ⟨v', h1, h2, h3, _⟩ => ⟨v', h1, h2, h3⟩
end Go.Proofs.YtooonjcpdbbniaaGreatDoor
namespace Go.Proofs.YtooonjcpdbbniaaGreatDoor
open Go.RowKit

theorem divmod_zero (va vb : Value) (a : Nat) (w : World) (ha : IsN w va a) (hb : IsN w vb 0) :
    Calls Tryz.prog 51 #[va, vb] w fun e w' => e = .returned (.tuple #[.slice none 0 0, .slice none 0 0, .int .i64 4]) ∧ w = w' := by
  unfold IsN at hb
  rw [limbs_zero] at hb
  obtain ⟨B, cb, rfl, _⟩ := hb
  go_enter Tryz.func51, Tryz.ntmps51
  go_wp2
  go_ret3
  exact ⟨rfl, rfl⟩

set_option maxRecDepth 100000 in
set_option maxHeartbeats 2000000 in
theorem divmod_less (va vb : Value) (a b : Nat) (w : World) (ha : IsN w va a) (hb : IsN w vb b) (sa : Sz a 1000000) (sb : Sz b 1000000) (h0 : 0 < b) (h : bl a < bl b) :
    Calls Tryz.prog 51 #[va, vb] w fun e w' => ∃ q r, e = .returned (.tuple #[q, r, .int .i64 0]) ∧ IsN w' q (a / b) ∧ IsN w' r (a % b) ∧ Below w.heap.size w w' := by
  have hlt := less_bl h
  rw [Nat.div_eq_of_lt hlt, Nat.mod_eq_of_lt hlt]
  have hA := rbits_any va a w ha sa
  have hBb := rbits_any vb b w hb sb
  have hL : (limbs b).length ≠ 0 := fun e => by
    have := limbs_nil.1 (List.eq_nil_of_length_eq_zero e); omega
  have ha' := ha
  obtain ⟨A, ca, rfl, hca, hca2, hba, hra⟩ := ha
  obtain ⟨B, cb, rfl, _⟩ := hb
  obtain ⟨i0, hi, hz0, hz1, hz2⟩ := info_parts info_u64
  generalize (limbs b).length = Lb at *
  have hLb : (((Lb : Nat) : Int) == 0) = false := by simp; omega
  have hLb2 : decide (Lb = 0) = false := by simp; omega
  clear hL
  have hbl : (bl a : Int) - (bl b : Int) < 0 := by omega
  have x1 := sa.bl
  have y1 := sb.bl
  generalize bl a = x at *
  generalize bl b = y at *
  have sa' : (limbs a).length ≤ 1000000 := sa
  clear hlt h0 sb sa
  go_enter Tryz.func51, Tryz.ntmps51
  go_wp2_with fail
  refine hA.mono ?_
  rintro e w' ⟨rfl, rfl⟩
  go_wp2_with fail
  refine hBb.mono ?_
  rintro e w' ⟨rfl, rfl⟩
  have hown := World.ownsRow_lit (w.alloc (.cells #[] 44)) #[] 0 (base := w.heap.size) (e := 44) (size := 1) (by simp) (by unfold maxLen; omega) rfl
  rw [World.size_alloc] at hown
  go_wp2_with (at_builtin; go_must (refine wpList_append_any _ rfl _ _ _ rfl w.heap.size 44 i0 _ 1 8 Tryz.underlying23 hi hz0 hz1 hz2 rfl (by omega) _ 0 [] rfl hown w.heap.size A (limbs a).length ca (us (limbs a)) rfl ((hra.alloc (Nat.le_refl _) _).alloc (by simp) _) (us_one _) (by unfold maxLen; omega) (by omega) (by simp; omega) ?_; intro v' w' hown' hgrow hat))
  go_ret3
  have b0 : Below w.heap.size w ((w.alloc (.cells #[] 44)).alloc (.cells #[] 44)) := ((Below.refl _ w).alloc (Nat.le_refl _) _).alloc (by simp) _
  rw [Nat.zero_add, List.nil_append] at hown'
  exact ⟨_, _, rfl, by unfold IsN; rw [limbs_zero]; exact ⟨_, _, rfl, by simp, by simp, Bd.nil, ⟨by simp [us], fun h => absurd h (by simp)⟩⟩, IsN.of_own hown', b0.grown hgrow (by simp; omega) (fun g e => by cases e; simp)⟩
end Go.Proofs.YtooonjcpdbbniaaGreatDoor
namespace Go.Proofs.YtooonjcpdbbniaaGreatDoor
open Go.RowKit

/-- what the loop of a division keeps -/
structure DivS (w : World) (va vb : Value) (a b : Nat) (l : List Nat) (g : Nat) (rv : Value) (r : Nat) : Prop where
  ha : IsN w va a
  hb : IsN w vb b
  na : va.ownBlock ≠ some g
  nb : vb.ownBlock ≠ some g
  hr : IsN w rv r
  hf : rv.ownBlock ≠ some g
  hq : Arr w g l
section
variable {w w' : World} {va vb rv : Value} {a b g r : Nat} {l : List Nat}
theorem DivS.below (h : DivS w va vb a b l g rv r) (hb : Below w.heap.size w w') : DivS w' va vb a b l g rv r :=
  ⟨h.ha.below hb, h.hb.below hb, h.na, h.nb, h.hr.below hb, h.hf, h.hq.below hb h.hq.lt⟩
theorem DivS.store (h : DivS w va vb a b l g rv r) (i x : Nat) : DivS (w.setCell ⟨g, i, none⟩ (.int .u64 (x : Int))) va vb a b (l.set i x) g rv r :=
  ⟨h.ha.far h.na _, h.hb.far h.nb _, h.na, h.nb, h.hr.far h.hf _, h.hf, h.hq.set i x⟩
theorem DivS.put (h : DivS w va vb a b l g rv r) {rv' : Value} {r' : Nat} (hr : IsN w rv' r') (hf : rv'.ownBlock ≠ some g) : DivS w va vb a b l g rv' r' :=
  ⟨h.ha, h.hb, h.na, h.nb, hr, hf, h.hq⟩
theorem IsN.old (h : IsN w rv r) (hg : w.heap.size ≤ g) (hr : (limbs r).length ≠ 0) : rv.ownBlock ≠ some g := by
  obtain ⟨A, c, rfl, h1, h2, h3, h4⟩ := h
  obtain ⟨ad, rfl, hb, _⟩ := h4.2 (by omega)
  intro e
  have : ad.block = g := by simpa [Value.ownBlock] using e
  omega
theorem Arr.far {w : World} {g : Nat} {l : List Nat} (h : Arr w g l) {p : Addr} (hp : g ≠ p.block) (u : Value) : Arr (w.setCell p u) g l := (Below.heap_setCell w p u g hp).trans h
theorem set_set (l : List Nat) (i x y : Nat) : (l.set i x).set i y = l.set i y := by simp
end

set_option maxRecDepth 100000 in
set_option maxHeartbeats 4000000 in
theorem divmod_in (va vb : Value) (a b : Nat) (w : World) (ha : IsN w va a) (hb : IsN w vb b) (sa : Sz a 100000) (sb : Sz b 100000) (h0 : 0 < b) (h : bl b ≤ bl a) :
    Calls Tryz.prog 51 #[va, vb] w fun e w' => ∃ q r, e = .returned (.tuple #[q, r, .int .i64 0]) ∧ IsN w' q (a / b) ∧ IsN w' r (a % b) ∧ Below w.heap.size w w' := by
  have hA := fun w ha => rbits_any va a w ha (sa.fin (by omega))
  have hBb := fun w hb => rbits_any vb b w hb (sb.fin (by omega))
  have hL : (limbs b).length ≠ 0 := fun e => by
    have := limbs_nil.1 (List.eq_nil_of_length_eq_zero e); omega
  obtain ⟨s1, s2⟩ := start_shift a b h0
  obtain ⟨s3, s4⟩ := start_full a b
  have hshr := fun w ha n hn => shr_f va a n hn w ha (sa.fin (by omega))
  have hshx := fun w n hn => shr_bad va n hn w
  have hlq : a / b < W64 ^ (limbs a).length := Nat.lt_of_le_of_lt (Nat.div_le_self _ _) (lt_of_limbs_len (Nat.le_refl _))
  have hbl := (show Sz a (limbs a).length from Nat.le_refl _).bl
  have sL : (limbs a).length ≤ 100000 := sa
  have sr : ∀ r, r < b → Sz r 100000 := fun r hr => sb.le (Nat.le_of_lt hr)
  have hbit := fun w ha i hi h64 => bit_any va a i w ha hi h64
  obtain ⟨A, LA, cA, hvA, hLA⟩ := ha.open_
  obtain ⟨B, LB, cB, hvB, hLB⟩ := hb.open_
  rw [← hLA] at hlq hbl sL hbit
  rw [← hLB] at hL
  obtain ⟨t, ht⟩ : ∃ t, t = bl a - bl b := ⟨_, rfl⟩
  rw [← ht] at s1 s2
  have htb : (bl a : Int) - (bl b : Int) = t := by omega
  have hta : t ≤ bl a := by omega
  have hta1 : t + 1 ≤ bl a := by
    have : bl b ≠ 0 := fun e => by rw [bl_eq_zero] at e; omega
    omega
  have ybl := sb.bl
  have xa0 : 1 ≤ bl a := by omega
  have zq : qrow (a / b) (t + 1) LA = zeros LA := qrow_start _ _ _ s2
  have zq2 : qrow (a / b) (bl a) LA = zeros LA := qrow_start _ _ _ s4
  have hqe := qrow_zero (a / b) LA hlq
  have hmk := run_make_u64 23 Tryz.underlying23 LA LA rfl (by omega)
  have LAp : 0 < LA := by omega
  have LBz : decide (LB = 0) = false := by simp; omega
  have LBz2 : ((LB : Int) == 0) = false := by simp; omega
  generalize bl a = x at *
  generalize bl b = y at *
  have H1 := Lib.hid (And.intro hLA (And.intro hLB (And.intro ht (And.intro s1 (And.intro s2 (And.intro s3 (And.intro s4 (And.intro zq (And.intro zq2 hqe)))))))))
  clear hLA hLB ht s1 s2 s3 s4 zq zq2 hqe hL hlq
  subst hvA hvB
  --TAIL
  by_cases hc : t + 1 ≤ 20000
  · have hc1 : (t : Int) + 1 ≤ 20000 := by omega
    have hshr := fun w ha => hshr w ha (t + 1) hc
    go_enter Tryz.func51, Tryz.ntmps51
    go_wp2_with fail
    refine (hA _ ha).mono ?_
    rintro e w' ⟨rfl, rfl⟩
    go_wp2_with fail
    refine (hBb _ hb).mono ?_
    rintro e w' ⟨rfl, rfl⟩
    go_wp2_with fail
    obtain ⟨g, hg⟩ : ∃ g, g = w.heap.size := ⟨_, rfl⟩
    have a0 := Arr.new w (zeros LA)
    have B0 : Below w.heap.size w (w.alloc (.cells (us (zeros LA)).toArray 44)) := (Below.refl _ w).alloc (Nat.le_refl _) _
    have ha1 := ha.below B0
    have hb1 := hb.below B0
    rw [← hg]
    rw [← hg] at a0
    have nA := ha.old (Nat.le_of_eq hg.symm) (by rw [← H1.out.1]; omega)
    have nB := hb.old (Nat.le_of_eq hg.symm) (by rw [← H1.out.2.1]; simpa using LBz)
    have HG := Lib.hid hg
    clear hg
    generalize w.alloc (.cells (us (zeros LA)).toArray 44) = W0 at *
    refine (hshr _ ha1).mono ?_
    rintro e w2 ⟨v2, rfl, h2, b2, f2⟩
    have f2' := f2.ne a0.lt
    have a0 := a0.below b2 a0.lt
    have hB := B0.trans (b2.mono B0.size)
    have S : DivS w2 (.slice A LA cA) (.slice B LB cB) a b (qrow (a / b) (t + 1) LA) g v2 (a / 2 ^ (t + 1)) := ⟨ha1.below b2, hb1.below b2, nA, nB, h2, f2', by rw [H1.out.2.2.2.2.2.2.2.1]; exact a0⟩
    go_wp2
    go_loopw [9, 11] (fun rv iv wr => ∃ (m r : Nat), iv = .int .i64 ((m : Int) - 1) ∧ m ≤ x ∧ r < b ∧ Hid (r = a / 2 ^ m % b) ∧ DivS wr (.slice A LA cA) (.slice B LB cB) a b (qrow (a / b) m LA) g rv r ∧ Below w.heap.size w wr) (fun _ iv _ => (intOf iv + 1).toNat)
    case atStart => exact ⟨t + 1, _, by go_num, by omega, by have := H1.out.2.2.2.1; rw [← this]; exact Nat.mod_lt _ h0, Lib.hid H1.out.2.2.2.1.symm, S, hB⟩
    case round =>
      clear S hA hBb hshr hshx hmk ha hb ha1 hb1 a0 h2 b2 hB B0 f2 f2' nA nB
      obtain ⟨m, r, rfl, hm, hrb, hr, S, hB⟩ := hrel
      rcases m with _ | i
      · rw [show (((0 : Nat) : Int) - 1) = -1 from rfl]
        have hq := S.hq
        have hqe := H1.out.2.2.2.2.2.2.2.2.2
        have hres := hq.isL (qrow_bd _ _ _) (by rw [qrow_len]; omega)
        rw [qrow_len] at hres
        have hlen : (qrow (a / b) 0 LA).length ≤ 10000000 := by rw [qrow_len]; omega
        have F := Lib.hid (And.intro hqe hr.out)
        clear hqe hr hq hbit sr
        go_wp2_with fail
        refine (rbare_any _ _ _ hres hlen).mono ?_
        rintro e w3 ⟨v3, rfl, h3, b3⟩
        have S := S.below b3
        go_wp2
        go_ret3
        obtain ⟨F1, F2⟩ := F.out
        refine ⟨_, _, rfl, by rw [← F1]; exact h3, ?_, hB.trans (b3.mono hB.size)⟩
        rw [Nat.pow_zero, Nat.div_one] at F2
        rw [← F2]; exact S.hr
      · rw [show (((i + 1 : Nat) : Int) - 1) = (i : Int) from by omega]
        obtain ⟨d1, d2⟩ := div_step a b i r h0 hr.out
        have hst := qrow_step (a / b) i LA (by omega)
        have hdb := ql_dbl (a / b) i
        have hlat := lat_qrow (a / b) (i + 1) LA (i / 64) (by omega)
        have hbit := fun w ha => hbit w ha i (by omega) (by omega)
        have hlen : (qrow (a / b) (i + 1) LA).length = LA := qrow_len _ _ _
        have cq := fun w (h : Arr w g (qrow (a / b) (i + 1) LA)) => h.cell (i := i / 64) (by rw [hlen]; omega)
        have fq := fun w l (h : Arr w g l) => h.frozen (i / 64)
        have cq2 := fun w u (h : Arr w g ((qrow (a / b) (i + 1) LA).set (i / 64) u)) => h.cell (i := i / 64) (by rw [List.length_set, hlen]; omega)
        rw [hlat] at cq
        have lat2 : ∀ u, lat ((qrow (a / b) (i + 1) LA).set (i / 64) u) (i / 64) = u := fun u => by rw [lat_set, if_pos ⟨rfl, by rw [hlen]; omega⟩]
        simp only [lat2] at cq2
        clear lat2
        generalize ql (a / b) (i + 1) (i / 64) = z at *
        have hc2 : a / 2 ^ i % 2 ≤ 1 := by omega
        have hof := fun w => rof_any (a / 2 ^ i % 2) (by unfold W64; omega) w
        generalize a / 2 ^ i % 2 = bit at *
        have sr' : ∀ k, k < b + b + 1 → (limbs k).length ≤ 1000000 := fun k hk => (((sb.add sb).add Sz.one).le (Nat.le_of_lt hk)).fin (by omega)
        have hadd := fun w v1 v2 (u1 u2 : Nat) h1 h2 (k1 : u1 < b + b + 1) (k2 : u2 < b + b + 1) => radd_f v1 v2 u1 u2 w h1 h2 (sr' _ k1) (sr' _ k2)
        have hcmp := fun w v1 h1 hb => rcmp_n v1 (.slice B LB cB) (r + r + bit) b w h1 hb
        have z2 : (z : Int) * 2 ≤ 18446744073709551615 := by unfold W64 at hdb; omega
        have z3 : ((z * 2 : Nat) : Int) + 1 ≤ 18446744073709551615 := by unfold W64 at hdb; omega
        have g0 : (0 : Int) ≤ (i : Int) / 64 := by omega
        have g1 : (i : Int) / 64 < (LA : Int) := by omega
        have g2 : ((i : Int) / 64).toNat = i / 64 := by omega
        have hib : (i : Int) ≤ 100000000 := by omega
        have hii : i ≤ x := by omega
        have kk1 : r < b + b + 1 := by omega
        have kk2 : r + r < b + b + 1 := by omega
        have kk3 : bit < b + b + 1 := by omega
        have kk4 : r + r + bit < b + b + 1 := by omega
        have HST := Lib.hid (And.intro hst (And.intro d1 (And.intro d2 hlen)))
        clear hst d1 d2 hdb hlat hlen sr
        go_wp2_with fail
        refine (hadd _ _ _ r r S.hr S.hr kk1 kk1).mono ?_
        rintro e w3 ⟨v3, rfl, h3, b3, _⟩
        have S := S.below b3
        have hB := hB.trans (b3.mono hB.size)
        go_wp2_with fail
        refine (hbit _ S.ha).mono ?_
        rintro e w' ⟨rfl, rfl⟩
        go_wp2_with fail
        refine (hof _).mono ?_
        rintro e w4 ⟨v4, rfl, h4, b4⟩
        have S := S.below b4
        have h3 := h3.below b4
        have hB := hB.trans (b4.mono hB.size)
        go_wp2_with fail
        refine (hadd _ _ _ _ _ h3 h4 kk2 kk3).mono ?_
        rintro e w5 ⟨v5, rfl, h5, b5, f5⟩
        have f5' := f5.ne S.hq.lt
        have S := (S.below b5).put h5 f5'
        have hB := hB.trans (b5.mono hB.size)
        have cq5 := cq _ S.hq
        have fq5 := fq _ _ S.hq
        have S := S.store (i / 64) (z * 2)
        rw [show ((z * 2 : Nat) : Int) = (z : Int) * 2 from by omega] at S
        have hgB := HG.out
        have hB := hB.setCell (p := ⟨g, i / 64, none⟩) (Nat.le_of_eq hgB.symm) (.int .u64 ((z : Int) * 2))
        clear hgB cq h3 h4 h5 f5 b3 b4 b5 hbit hof hadd
        go_wp2_with fail
        obtain ⟨w6, hw6⟩ : ∃ w6, w6 = w5.setCell ⟨g, i / 64, none⟩ (.int .u64 ((z : Int) * 2)) := ⟨_, rfl⟩
        rw [← hw6] at S hB
        rw [← hw6]
        clear hw6 cq5 fq5
        by_cases hle : b ≤ r + r + bit
        · have ec : cmpI ((r + r + bit : Nat) : Int) ((b : Nat) : Int) = cmpI (r + r + bit : Nat) b := rfl
          have hc0 : (0 : Int) ≤ cmpI ((r + r + bit : Nat) : Int) (b : Int) := by unfold cmpI; split <;> (try split) <;> omega
          have hsub := fun w v1 h1 hb => rsub_f v1 (.slice B LB cB) (r + r + bit) b w h1 hb (sr' _ kk4) (sr' _ (by omega)) hle
          generalize cmpI ((r + r + bit : Nat) : Int) (b : Int) = cc at *
          refine (hcmp _ _ S.hr S.hb).mono ?_
          rintro e w7 ⟨rfl, n7, rfl⟩
          have S := S.below (below_drewN (Below.refl _ _) n7)
          have hB := below_drewN hB n7
          generalize w6.drewN n7 = w7 at *
          have HSU := Lib.hid hsub
          have HQ := Lib.hid (And.intro cq2 fq)
          clear hsub hcmp cq2 fq
          go_wp2_with fail
          refine (HSU.out _ _ S.hr S.hb).mono ?_
          rintro e w8 ⟨v8, rfl, h8, b8, f8⟩
          have f8' := f8.ne S.hq.lt
          have S := (S.below b8).put h8 f8'
          have hB := hB.trans (b8.mono hB.size)
          have cq8 := HQ.out.1 _ _ S.hq
          have fq8 := HQ.out.2 _ _ S.hq
          have S := S.store (i / 64) (z * 2 + 1)
          rw [set_set, show ((z * 2 + 1 : Nat) : Int) = ((z * 2 : Nat) : Int) + 1 from by omega] at S
          have hgB := HG.out
          have hB := hB.setCell (p := ⟨g, i / 64, none⟩) (Nat.le_of_eq hgB.symm) (.int .u64 (((z * 2 : Nat) : Int) + 1))
          clear hgB h8 f8 b8
          obtain ⟨Z, hZ⟩ : ∃ Z, Z = z * 2 := ⟨_, rfl⟩
          rw [← hZ] at S hB z3 cq8
          have HZ := Lib.hid hZ
          have SB := Lib.hid (And.intro S hB)
          clear hZ S hB sr'
          go_wp2_with fail
          obtain ⟨S, hB⟩ := SB.out
          obtain ⟨E1, E2, _, _⟩ := HST.out
          obtain ⟨E3, E4⟩ := E2 hle
          refine ⟨⟨i, _, rfl, by omega, ?_, Lib.hid E3, ?_, hB⟩, by simp [intOf]⟩
          · rw [E3]; exact Nat.mod_lt _ h0
          · rw [E4, show 2 * z + 1 = Z + 1 from by rw [HZ.out]; omega] at E1
            rw [← E1]; exact S
        · have hc0 : cmpI ((r + r + bit : Nat) : Int) (b : Int) < 0 := by unfold cmpI; split <;> (try split) <;> omega
          have hlt : r + r + bit < b := by omega
          generalize cmpI ((r + r + bit : Nat) : Int) (b : Int) = cc at *
          refine (hcmp _ _ S.hr S.hb).mono ?_
          rintro e w7 ⟨rfl, n7, rfl⟩
          have S := S.below (below_drewN (Below.refl _ _) n7)
          have hB := below_drewN hB n7
          generalize w6.drewN n7 = w7 at *
          have SB := Lib.hid (And.intro S hB)
          have HLT := Lib.hid hlt
          have HII := Lib.hid hii
          have HH0 := Lib.hid h0
          clear S hB hcmp cq2 fq kk1 kk2 kk3 kk4 hle sr' hc2 hlt hii z2 z3 hib htb hta hta1 hbl hc hc1 hrb xa0 ybl h sa sb h0
          go_wp2_with fail
          obtain ⟨S, hB⟩ := SB.out
          obtain ⟨E1, _, E2, _⟩ := HST.out
          obtain ⟨E3, E4⟩ := E2 HLT.out
          refine ⟨⟨i, _, rfl, HII.out, ?_, Lib.hid E3, ?_, hB⟩, by simp [intOf]⟩
          · rw [E3]; exact Nat.mod_lt _ HH0.out
          · rw [E4, show 2 * z + 0 = z * 2 from by omega] at E1
            rw [← E1]; exact S
  · have hc1 : ¬ ((t : Int) + 1 ≤ 20000) := by omega
    go_enter Tryz.func51, Tryz.ntmps51
    go_wp2_with fail
    refine (hA _ ha).mono ?_
    rintro e w' ⟨rfl, rfl⟩
    go_wp2_with fail
    refine (hBb _ hb).mono ?_
    rintro e w' ⟨rfl, rfl⟩
    go_wp2_with fail
    obtain ⟨g, hg⟩ : ∃ g, g = w.heap.size := ⟨_, rfl⟩
    have a0 := Arr.new w (zeros LA)
    have B0 : Below w.heap.size w (w.alloc (.cells (us (zeros LA)).toArray 44)) := (Below.refl _ w).alloc (Nat.le_refl _) _
    have ha1 := ha.below B0
    have hb1 := hb.below B0
    have hbx := hshx (w.alloc (.cells (us (zeros LA)).toArray 44)) ((t : Int) + 1) (.inr (by omega))
    have hsz : (w.alloc (.cells (us (zeros LA)).toArray 44)).heap.size = w.heap.size + 1 := by simp
    rw [← hg] at hsz
    rw [← hg]
    rw [← hg] at a0
    have nA := ha.old (Nat.le_of_eq hg.symm) (by rw [← H1.out.1]; omega)
    have nB := hb.old (Nat.le_of_eq hg.symm) (by rw [← H1.out.2.1]; simpa using LBz)
    have HG := Lib.hid hg
    clear hg
    generalize w.alloc (.cells (us (zeros LA)).toArray 44) = W0 at *
    have HSZ := Lib.hid hsz
    clear hsz
    refine hbx.mono ?_
    rintro e w2 ⟨rfl, rfl⟩
    have B1 : Below W0.heap.size W0 (W0.alloc (.cells #[] 44)) := (Below.refl _ W0).alloc (Nat.le_refl _) _
    have hA2 := hA (W0.alloc (.cells #[] 44)) (ha1.below B1)
    go_wp2_with fail
    refine hA2.mono ?_
    rintro e w' ⟨rfl, rfl⟩
    have a0 := a0.below B1 a0.lt
    have hB := B0.trans (B1.mono B0.size)
    have S : DivS (W0.alloc (.cells #[] 44)) (.slice A LA cA) (.slice B LB cB) a b (qrow (a / b) x LA) g (.slice (some ⟨g + 1, 0, none⟩) 0 0) 0 :=
      ⟨ha1.below B1, hb1.below B1, nA, nB, by unfold IsN; rw [limbs_zero]; exact ⟨_, _, rfl, by simp, by simp, Bd.nil, ⟨by simp [us], fun h => absurd h (by simp)⟩⟩, by simp [Value.ownBlock], by rw [H1.out.2.2.2.2.2.2.2.2.1]; exact a0⟩
    have hsz := HSZ.out
    go_wp2
    go_loopw [9, 11] (fun rv iv wr => ∃ (m r : Nat), iv = .int .i64 ((m : Int) - 1) ∧ m ≤ x ∧ r < b ∧ Hid (r = a / 2 ^ m % b) ∧ DivS wr (.slice A LA cA) (.slice B LB cB) a b (qrow (a / b) m LA) g rv r ∧ Below w.heap.size w wr) (fun _ iv _ => (intOf iv + 1).toNat)
    case atStart => exact ⟨x, 0, by go_num, by omega, h0, Lib.hid H1.out.2.2.2.2.2.1, by first | exact S | (rw [hsz]; exact S), hB⟩
    case round =>
      clear S hA hBb hshr hshx hmk ha hb ha1 hb1 a0 hB B0 B1 hA2 hbx hsz nA nB
      obtain ⟨m, r, rfl, hm, hrb, hr, S, hB⟩ := hrel
      rcases m with _ | i
      · rw [show (((0 : Nat) : Int) - 1) = -1 from rfl]
        have hq := S.hq
        have hqe := H1.out.2.2.2.2.2.2.2.2.2
        have hres := hq.isL (qrow_bd _ _ _) (by rw [qrow_len]; omega)
        rw [qrow_len] at hres
        have hlen : (qrow (a / b) 0 LA).length ≤ 10000000 := by rw [qrow_len]; omega
        have F := Lib.hid (And.intro hqe hr.out)
        clear hqe hr hq hbit sr
        go_wp2_with fail
        refine (rbare_any _ _ _ hres hlen).mono ?_
        rintro e w3 ⟨v3, rfl, h3, b3⟩
        have S := S.below b3
        go_wp2
        go_ret3
        obtain ⟨F1, F2⟩ := F.out
        refine ⟨_, _, rfl, by rw [← F1]; exact h3, ?_, hB.trans (b3.mono hB.size)⟩
        rw [Nat.pow_zero, Nat.div_one] at F2
        rw [← F2]; exact S.hr
      · rw [show (((i + 1 : Nat) : Int) - 1) = (i : Int) from by omega]
        obtain ⟨d1, d2⟩ := div_step a b i r h0 hr.out
        have hst := qrow_step (a / b) i LA (by omega)
        have hdb := ql_dbl (a / b) i
        have hlat := lat_qrow (a / b) (i + 1) LA (i / 64) (by omega)
        have hbit := fun w ha => hbit w ha i (by omega) (by omega)
        have hlen : (qrow (a / b) (i + 1) LA).length = LA := qrow_len _ _ _
        have cq := fun w (h : Arr w g (qrow (a / b) (i + 1) LA)) => h.cell (i := i / 64) (by rw [hlen]; omega)
        have fq := fun w l (h : Arr w g l) => h.frozen (i / 64)
        have cq2 := fun w u (h : Arr w g ((qrow (a / b) (i + 1) LA).set (i / 64) u)) => h.cell (i := i / 64) (by rw [List.length_set, hlen]; omega)
        rw [hlat] at cq
        have lat2 : ∀ u, lat ((qrow (a / b) (i + 1) LA).set (i / 64) u) (i / 64) = u := fun u => by rw [lat_set, if_pos ⟨rfl, by rw [hlen]; omega⟩]
        simp only [lat2] at cq2
        clear lat2
        generalize ql (a / b) (i + 1) (i / 64) = z at *
        have hc2 : a / 2 ^ i % 2 ≤ 1 := by omega
        have hof := fun w => rof_any (a / 2 ^ i % 2) (by unfold W64; omega) w
        generalize a / 2 ^ i % 2 = bit at *
        have sr' : ∀ k, k < b + b + 1 → (limbs k).length ≤ 1000000 := fun k hk => (((sb.add sb).add Sz.one).le (Nat.le_of_lt hk)).fin (by omega)
        have hadd := fun w v1 v2 (u1 u2 : Nat) h1 h2 (k1 : u1 < b + b + 1) (k2 : u2 < b + b + 1) => radd_f v1 v2 u1 u2 w h1 h2 (sr' _ k1) (sr' _ k2)
        have hcmp := fun w v1 h1 hb => rcmp_n v1 (.slice B LB cB) (r + r + bit) b w h1 hb
        have z2 : (z : Int) * 2 ≤ 18446744073709551615 := by unfold W64 at hdb; omega
        have z3 : ((z * 2 : Nat) : Int) + 1 ≤ 18446744073709551615 := by unfold W64 at hdb; omega
        have g0 : (0 : Int) ≤ (i : Int) / 64 := by omega
        have g1 : (i : Int) / 64 < (LA : Int) := by omega
        have g2 : ((i : Int) / 64).toNat = i / 64 := by omega
        have hib : (i : Int) ≤ 100000000 := by omega
        have hii : i ≤ x := by omega
        have kk1 : r < b + b + 1 := by omega
        have kk2 : r + r < b + b + 1 := by omega
        have kk3 : bit < b + b + 1 := by omega
        have kk4 : r + r + bit < b + b + 1 := by omega
        have HST := Lib.hid (And.intro hst (And.intro d1 (And.intro d2 hlen)))
        clear hst d1 d2 hdb hlat hlen sr
        go_wp2_with fail
        refine (hadd _ _ _ r r S.hr S.hr kk1 kk1).mono ?_
        rintro e w3 ⟨v3, rfl, h3, b3, _⟩
        have S := S.below b3
        have hB := hB.trans (b3.mono hB.size)
        go_wp2_with fail
        refine (hbit _ S.ha).mono ?_
        rintro e w' ⟨rfl, rfl⟩
        go_wp2_with fail
        refine (hof _).mono ?_
        rintro e w4 ⟨v4, rfl, h4, b4⟩
        have S := S.below b4
        have h3 := h3.below b4
        have hB := hB.trans (b4.mono hB.size)
        go_wp2_with fail
        refine (hadd _ _ _ _ _ h3 h4 kk2 kk3).mono ?_
        rintro e w5 ⟨v5, rfl, h5, b5, f5⟩
        have f5' := f5.ne S.hq.lt
        have S := (S.below b5).put h5 f5'
        have hB := hB.trans (b5.mono hB.size)
        have cq5 := cq _ S.hq
        have fq5 := fq _ _ S.hq
        have S := S.store (i / 64) (z * 2)
        rw [show ((z * 2 : Nat) : Int) = (z : Int) * 2 from by omega] at S
        have hgB := HG.out
        have hB := hB.setCell (p := ⟨g, i / 64, none⟩) (Nat.le_of_eq hgB.symm) (.int .u64 ((z : Int) * 2))
        clear hgB cq h3 h4 h5 f5 b3 b4 b5 hbit hof hadd
        go_wp2_with fail
        obtain ⟨w6, hw6⟩ : ∃ w6, w6 = w5.setCell ⟨g, i / 64, none⟩ (.int .u64 ((z : Int) * 2)) := ⟨_, rfl⟩
        rw [← hw6] at S hB
        rw [← hw6]
        clear hw6 cq5 fq5
        by_cases hle : b ≤ r + r + bit
        · have ec : cmpI ((r + r + bit : Nat) : Int) ((b : Nat) : Int) = cmpI (r + r + bit : Nat) b := rfl
          have hc0 : (0 : Int) ≤ cmpI ((r + r + bit : Nat) : Int) (b : Int) := by unfold cmpI; split <;> (try split) <;> omega
          have hsub := fun w v1 h1 hb => rsub_f v1 (.slice B LB cB) (r + r + bit) b w h1 hb (sr' _ kk4) (sr' _ (by omega)) hle
          generalize cmpI ((r + r + bit : Nat) : Int) (b : Int) = cc at *
          refine (hcmp _ _ S.hr S.hb).mono ?_
          rintro e w7 ⟨rfl, n7, rfl⟩
          have S := S.below (below_drewN (Below.refl _ _) n7)
          have hB := below_drewN hB n7
          generalize w6.drewN n7 = w7 at *
          have HSU := Lib.hid hsub
          have HQ := Lib.hid (And.intro cq2 fq)
          clear hsub hcmp cq2 fq
          go_wp2_with fail
          refine (HSU.out _ _ S.hr S.hb).mono ?_
          rintro e w8 ⟨v8, rfl, h8, b8, f8⟩
          have f8' := f8.ne S.hq.lt
          have S := (S.below b8).put h8 f8'
          have hB := hB.trans (b8.mono hB.size)
          have cq8 := HQ.out.1 _ _ S.hq
          have fq8 := HQ.out.2 _ _ S.hq
          have S := S.store (i / 64) (z * 2 + 1)
          rw [set_set, show ((z * 2 + 1 : Nat) : Int) = ((z * 2 : Nat) : Int) + 1 from by omega] at S
          have hgB := HG.out
          have hB := hB.setCell (p := ⟨g, i / 64, none⟩) (Nat.le_of_eq hgB.symm) (.int .u64 (((z * 2 : Nat) : Int) + 1))
          clear hgB h8 f8 b8
          obtain ⟨Z, hZ⟩ : ∃ Z, Z = z * 2 := ⟨_, rfl⟩
          rw [← hZ] at S hB z3 cq8
          have HZ := Lib.hid hZ
          have SB := Lib.hid (And.intro S hB)
          clear hZ S hB sr'
          go_wp2_with fail
          obtain ⟨S, hB⟩ := SB.out
          obtain ⟨E1, E2, _, _⟩ := HST.out
          obtain ⟨E3, E4⟩ := E2 hle
          refine ⟨⟨i, _, rfl, by omega, ?_, Lib.hid E3, ?_, hB⟩, by simp [intOf]⟩
          · rw [E3]; exact Nat.mod_lt _ h0
          · rw [E4, show 2 * z + 1 = Z + 1 from by rw [HZ.out]; omega] at E1
            rw [← E1]; exact S
        · have hc0 : cmpI ((r + r + bit : Nat) : Int) (b : Int) < 0 := by unfold cmpI; split <;> (try split) <;> omega
          have hlt : r + r + bit < b := by omega
          generalize cmpI ((r + r + bit : Nat) : Int) (b : Int) = cc at *
          refine (hcmp _ _ S.hr S.hb).mono ?_
          rintro e w7 ⟨rfl, n7, rfl⟩
          have S := S.below (below_drewN (Below.refl _ _) n7)
          have hB := below_drewN hB n7
          generalize w6.drewN n7 = w7 at *
          have SB := Lib.hid (And.intro S hB)
          have HLT := Lib.hid hlt
          have HII := Lib.hid hii
          have HH0 := Lib.hid h0
          clear S hB hcmp cq2 fq kk1 kk2 kk3 kk4 hle sr' hc2 hlt hii z2 z3 hib htb hta hta1 hbl hc hc1 hrb xa0 ybl h sa sb h0
          go_wp2_with fail
          obtain ⟨S, hB⟩ := SB.out
          obtain ⟨E1, _, E2, _⟩ := HST.out
          obtain ⟨E3, E4⟩ := E2 HLT.out
          refine ⟨⟨i, _, rfl, HII.out, ?_, Lib.hid E3, ?_, hB⟩, by simp [intOf]⟩
          · rw [E3]; exact Nat.mod_lt _ HH0.out
          · rw [E4, show 2 * z + 0 = z * 2 from by omega] at E1
            rw [← E1]; exact S
end Go.Proofs.YtooonjcpdbbniaaGreatDoor
namespace Go.Proofs.YtooonjcpdbbniaaGreatDoor
open Go.RowKit

theorem divmod_any (va vb : Value) (a b : Nat) (w : World) (ha : IsN w va a) (hb : IsN w vb b) (sa : Sz a 100000) (sb : Sz b 100000) (h0 : 0 < b) :
    Calls Tryz.prog 51 #[va, vb] w fun e w' => ∃ q r, e = .returned (.tuple #[q, r, .int .i64 0]) ∧ IsN w' q (a / b) ∧ IsN w' r (a % b) ∧ Below w.heap.size w w' := by
  rcases Nat.lt_or_ge (bl a) (bl b) with h | h
  · exact divmod_less va vb a b w ha hb (sa.more (by omega)) (sb.more (by omega)) h0 h
  · exact divmod_in va vb a b w ha hb sa sb h0 h

end Go.Proofs.YtooonjcpdbbniaaGreatDoor
