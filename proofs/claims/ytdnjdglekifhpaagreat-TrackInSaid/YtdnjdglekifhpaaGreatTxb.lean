/- A part of the proof of: The live question of layer 20. Printed by gen_alive20.py. -/
import Derived.Deep.LoopGhost
import Derived.Deep.RegionHeld3
import Derived.Maps.AppendAt
import Derived.Deep.AppendLies
import Derived.Deep.DeepMust
import Derived.Test.YtdnjdglekifhpaaGreatTxa
namespace Go.Proofs.YtdnjdglekifhpaaGreat
theorem lat_limbs (n j : Nat) : lat (limbs n) j = n / W64 ^ j % W64 := by
  induction j generalizing n with
  | zero =>
    by_cases h : n = 0
    · subst h; rw [limbs_zero]; simp [lat]
    · rw [limbs_pos h]; simp [lat]
  | succ j ih =>
    by_cases h : n = 0
    · subst h; rw [limbs_zero]; simp [lat]
    · rw [limbs_pos h, lat_cons_succ, ih, Nat.div_div_eq_div_mul, Nat.pow_succ, Nat.mul_comm (W64 ^ j)]
theorem num_range (Q n : Nat) : num ((List.range n).map fun j => Q / W64 ^ j % W64) = Q % W64 ^ n := by
  induction n with
  | zero => simp [num, Nat.mod_one]
  | succ n ih =>
    rw [List.range_succ, List.map_append, num_append, ih, List.map_singleton, num_single, List.length_map, List.length_range, Nat.pow_succ, Nat.mod_mul]
theorem Bd.range (g : Nat → Nat) (n : Nat) (h : ∀ j, g j < W64) : Bd ((List.range n).map g) := by
  intro x hx; obtain ⟨j, _, rfl⟩ := List.mem_map.1 hx; exact h j
theorem lat_range (g : Nat → Nat) (n j : Nat) (h : j < n) : lat ((List.range n).map g) j = g j := by simp [lat, h]
def ql (Q m j : Nat) : Nat := (Q / W64 ^ j % W64) / 2 ^ (m - 64 * j)
def qrow (Q m n : Nat) : List Nat := (List.range n).map (ql Q m)
theorem ql_lt (Q m j : Nat) : ql Q m j < W64 := Nat.lt_of_le_of_lt (Nat.div_le_self _ _) (Nat.mod_lt _ W64_pos)
theorem qrow_len (Q m n : Nat) : (qrow Q m n).length = n := by simp [qrow]
theorem qrow_bd (Q m n : Nat) : Bd (qrow Q m n) := Bd.range _ _ (ql_lt Q m)
theorem lat_qrow (Q m n j : Nat) (h : j < n) : lat (qrow Q m n) j = ql Q m j := lat_range _ _ _ h
theorem qrow_zero (Q n : Nat) (h : Q < W64 ^ n) : num (qrow Q 0 n) = Q := by
  have : qrow Q 0 n = (List.range n).map fun j => Q / W64 ^ j % W64 := by
    unfold qrow ql; simp
  rw [this, num_range, Nat.mod_eq_of_lt h]
theorem qrow_start (Q m n : Nat) (h : Q < 2 ^ m) : qrow Q m n = zeros n := by
  unfold qrow zeros
  rw [List.eq_replicate_iff]
  refine ⟨by simp, fun x hx => ?_⟩
  obtain ⟨j, _, rfl⟩ := List.mem_map.1 hx
  unfold ql
  rw [Nat.div_eq_zero_iff]
  right
  refine Nat.lt_of_le_of_lt (Nat.mod_le _ _) ?_
  rw [Nat.div_lt_iff_lt_mul (Nat.pow_pos W64_pos), W64_pow, ← Nat.pow_add]
  exact Nat.lt_of_lt_of_le h (Nat.pow_le_pow_right (by omega) (by omega))
theorem half_pow (x s : Nat) : x / 2 ^ s = 2 * (x / 2 ^ (s + 1)) + x / 2 ^ s % 2 := by
  rw [Nat.pow_succ, ← Nat.div_div_eq_div_mul]; omega
theorem ql_here (Q i : Nat) : ql Q i (i / 64) = 2 * ql Q (i + 1) (i / 64) + Q / 2 ^ i % 2 := by
  unfold ql
  have h1 : i + 1 - 64 * (i / 64) = (i - 64 * (i / 64)) + 1 := by omega
  rw [h1]
  have hs : i - 64 * (i / 64) < 64 := by omega
  have e : Q / 2 ^ i % 2 = (Q / W64 ^ (i / 64) % W64) / 2 ^ (i - 64 * (i / 64)) % 2 := by
    have hi : 2 ^ i = W64 ^ (i / 64) * 2 ^ (i - 64 * (i / 64)) := by rw [W64_pow, ← Nat.pow_add]; congr 1; omega
    rw [hi, ← Nat.div_div_eq_div_mul]
    generalize Q / W64 ^ (i / 64) = T
    generalize i - 64 * (i / 64) = s at *
    have hw : W64 = 2 ^ s * (2 * 2 ^ (63 - s)) := by
      rw [← Nat.pow_succ', ← Nat.pow_add, show s + (63 - s + 1) = 64 from by omega]; rfl
    rw [hw, Nat.mod_mul_right_div_self, Nat.mod_mul_right_mod]
  rw [e]
  exact half_pow _ _
theorem ql_there (Q i j : Nat) (h : j ≠ i / 64) : ql Q i j = ql Q (i + 1) j := by
  unfold ql
  rcases Nat.lt_or_ge j (i / 64) with h1 | h1
  · have hb : Q / W64 ^ j % W64 < 2 ^ 64 := Nat.mod_lt _ W64_pos
    rw [Nat.div_eq_zero_iff.2, Nat.div_eq_zero_iff.2]
    · right; exact Nat.lt_of_lt_of_le hb (Nat.pow_le_pow_right (by omega) (by omega))
    · right; exact Nat.lt_of_lt_of_le hb (Nat.pow_le_pow_right (by omega) (by omega))
  · rw [show i - 64 * j = 0 from by omega, show i + 1 - 64 * j = 0 from by omega]
theorem qrow_step (Q i n : Nat) (_ : i / 64 < n) : (qrow Q (i + 1) n).set (i / 64) (2 * ql Q (i + 1) (i / 64) + Q / 2 ^ i % 2) = qrow Q i n := by
  apply List.ext_getElem (by simp [qrow])
  intro j h1 h2
  rw [List.getElem_set]
  unfold qrow at *
  by_cases hj : i / 64 = j
  · rw [if_pos hj]; subst hj
    rw [List.getElem_map, List.getElem_range, ql_here]
  · rw [if_neg hj, List.getElem_map, List.getElem_map, List.getElem_range, ql_there _ _ _ (fun e => hj e.symm)]
theorem ql_dbl (Q i : Nat) : 2 * ql Q (i + 1) (i / 64) + 1 < W64 := by
  unfold ql
  have h : Q / W64 ^ (i / 64) % W64 < W64 := Nat.mod_lt _ W64_pos
  have h1 : i + 1 - 64 * (i / 64) = (i - 64 * (i / 64)) + 1 := by omega
  rw [h1, Nat.pow_succ']
  generalize Q / W64 ^ (i / 64) % W64 = x at *
  rw [← Nat.div_div_eq_div_mul]
  have : x / 2 / 2 ^ (i - 64 * (i / 64)) ≤ x / 2 := Nat.div_le_self _ _
  unfold W64 at *
  omega
theorem dbl_div (x y c b : Nat) (hb : 0 < b) (hc : c ≤ 1) (h : y = 2 * x + c) :
    (b ≤ 2 * (x % b) + c → y % b = 2 * (x % b) + c - b ∧ y / b = 2 * (x / b) + 1) ∧ (2 * (x % b) + c < b → y % b = 2 * (x % b) + c ∧ y / b = 2 * (x / b)) := by
  have hr := Nat.mod_lt x hb
  have hx := Nat.div_add_mod x b
  generalize x / b = q at *
  generalize x % b = r at *
  have hy : y = b * (2 * q) + (2 * r + c) := by rw [h, ← hx, Nat.mul_left_comm]; omega
  constructor
  · intro hle
    have hy2 : y = (2 * r + c - b) + b * (2 * q + 1) := by rw [hy, Nat.mul_succ]; omega
    exact ⟨by rw [hy2, Nat.add_mul_mod_self_left, Nat.mod_eq_of_lt (by omega)], by rw [hy2, Nat.add_mul_div_left _ _ hb, Nat.div_eq_of_lt (by omega)]; omega⟩
  · intro hlt
    have hy2 : y = (2 * r + c) + b * (2 * q) := by omega
    exact ⟨by rw [hy2, Nat.add_mul_mod_self_left, Nat.mod_eq_of_lt hlt], by rw [hy2, Nat.add_mul_div_left _ _ hb, Nat.div_eq_of_lt hlt]; omega⟩
theorem div_step (a b i r : Nat) (hb : 0 < b) (hr : r = a / 2 ^ (i + 1) % b) :
    (b ≤ r + r + a / 2 ^ i % 2 → r + r + a / 2 ^ i % 2 - b = a / 2 ^ i % b ∧ a / b / 2 ^ i % 2 = 1) ∧
    (r + r + a / 2 ^ i % 2 < b → r + r + a / 2 ^ i % 2 = a / 2 ^ i % b ∧ a / b / 2 ^ i % 2 = 0) := by
  have h1 := half_pow a i
  have h2 : a / b / 2 ^ i = a / 2 ^ i / b := by rw [Nat.div_div_eq_div_mul, Nat.div_div_eq_div_mul, Nat.mul_comm]
  rw [h2]
  clear h2
  have hc : a / 2 ^ i % 2 ≤ 1 := by omega
  generalize a / 2 ^ (i + 1) = x at *
  generalize a / 2 ^ i = y at *
  generalize y % 2 = c at *
  obtain ⟨k1, k2⟩ := dbl_div x y c b hb hc h1
  rw [← hr] at k1 k2
  constructor
  · intro h
    obtain ⟨e1, e2⟩ := k1 (by omega)
    exact ⟨by omega, by omega⟩
  · intro h
    obtain ⟨e1, e2⟩ := k2 (by omega)
    exact ⟨by omega, by omega⟩
theorem start_shift (a b : Nat) (hb : 0 < b) : a / 2 ^ (bl a - bl b + 1) % b = a / 2 ^ (bl a - bl b + 1) ∧ a / b < 2 ^ (bl a - bl b + 1) := by
  have h1 := lt_bl a
  have h2 := bl_le (n := b) (by omega)
  have h3 : 1 ≤ bl b := by
    rcases Nat.eq_zero_or_pos (bl b) with h | h
    · rw [bl_eq_zero] at h; omega
    · exact h
  have h4 : a < 2 ^ (bl a - bl b + 1) * 2 ^ (bl b - 1) := by
    rw [← Nat.pow_add]; exact Nat.lt_of_lt_of_le h1 (Nat.pow_le_pow_right (by omega) (by omega))
  constructor
  · apply Nat.mod_eq_of_lt
    refine Nat.lt_of_lt_of_le ?_ h2
    rw [Nat.div_lt_iff_lt_mul (Nat.pow_pos (by omega)), Nat.mul_comm]; exact h4
  · rw [Nat.div_lt_iff_lt_mul hb]
    exact Nat.lt_of_lt_of_le h4 (Nat.mul_le_mul_left _ h2)
theorem start_full (a b : Nat) : 0 = a / 2 ^ bl a % b ∧ a / b < 2 ^ bl a :=
  ⟨by rw [Nat.div_eq_of_lt (lt_bl a)]; simp, Nat.lt_of_le_of_lt (Nat.div_le_self _ _) (lt_bl a)⟩
theorem less_bl {a b : Nat} (h : bl a < bl b) : a < b := by
  rcases Nat.lt_or_ge a b with h1 | h1
  · exact h1
  · have := bl_mono h1; omega
theorem shr_limb (a n i : Nat) (h : n / 64 ≤ i) : (a / W64 ^ i % W64 + W64 * (a / W64 ^ (i + 1) % W64)) / 2 ^ (n % 64) % W64 = a / 2 ^ n / W64 ^ (i - n / 64) % W64 := by
  have e1 : a / W64 ^ (i + 1) = a / W64 ^ i / W64 := by rw [Nat.pow_succ, ← Nat.div_div_eq_div_mul]
  have e2 : a / 2 ^ n / W64 ^ (i - n / 64) = a / W64 ^ i / 2 ^ (n % 64) := by
    rw [Nat.div_div_eq_div_mul, Nat.div_div_eq_div_mul]
    congr 1
    rw [W64_pow, W64_pow, ← Nat.pow_add, ← Nat.pow_add]
    congr 1; omega
  rw [e1, e2, ← Nat.mod_mul]
  generalize a / W64 ^ i = T
  have hs : n % 64 < 64 := Nat.mod_lt _ (by omega)
  generalize n % 64 = s at *
  have hw : W64 * W64 = 2 ^ s * (W64 * 2 ^ (64 - s)) := by
    rw [Nat.mul_left_comm, ← Nat.pow_add, show s + (64 - s) = 64 from by omega]; rfl
  rw [hw, Nat.mod_mul_right_div_self, Nat.mod_mul_right_mod]
theorem shr_end (a n L : Nat) (h : a < W64 ^ L) : num ((List.range (L - n / 64)).map fun j => a / 2 ^ n / W64 ^ j % W64) = a / 2 ^ n := by
  rw [num_range]
  apply Nat.mod_eq_of_lt
  rw [Nat.div_lt_iff_lt_mul (Nat.pow_pos (by omega))]
  refine Nat.lt_of_lt_of_le h ?_
  rw [W64_pow, W64_pow, ← Nat.pow_add]
  exact Nat.pow_le_pow_right (by omega) (by omega)
end Go.Proofs.YtdnjdglekifhpaaGreat
namespace Go.Proofs.YtdnjdglekifhpaaGreat
open Go.RowKit
set_option maxHeartbeats 1000000 in
theorem bit_any (v : Value) (a i : Nat) (w : World) (h : IsN w v a) (hl : i / 64 < (limbs a).length) (hi64 : i ≤ 1000000000) :
    Calls Tryz.prog 188 #[v, .int .i64 i] w fun e w' => e = .returned (.int .u64 ((a / 2 ^ i % 2 : Nat) : Int)) ∧ w = w' := by
  obtain ⟨A, c, rfl, hlc, hc, hbd, hr⟩ := h
  have e : a / 2 ^ i % 2 = lat (limbs a) (i / 64) / 2 ^ (i % 64) % 2 := by
    rw [lat_limbs]
    have hi : 2 ^ i = W64 ^ (i / 64) * 2 ^ (i % 64) := by rw [W64_pow, ← Nat.pow_add]; congr 1; omega
    rw [hi, ← Nat.div_div_eq_div_mul]
    generalize a / W64 ^ (i / 64) = T
    have hs : i % 64 < 64 := Nat.mod_lt _ (by omega)
    generalize i % 64 = s at *
    have hw : W64 = 2 ^ s * (2 * 2 ^ (63 - s)) := by
      rw [← Nat.pow_succ', ← Nat.pow_add, show s + (63 - s + 1) = 64 from by omega]; rfl
    rw [hw, Nat.mod_mul_right_div_self, Nat.mod_mul_right_mod]
  rw [e]
  clear e
  obtain ⟨ad, rfl, _, hx⟩ := us_cell hr (k := i / 64) hl
  have hb := hbd.lat (i / 64)
  generalize lat (limbs a) (i / 64) = x at *
  generalize (limbs a).length = m at *
  obtain ⟨z, hz⟩ : ∃ z, z = x / 2 ^ (i % 64) % 2 := ⟨_, rfl⟩
  have Z := Lib.hid hz
  rw [← hz]
  clear hz
  have g0 : (0 : Int) ≤ (i : Int) / 64 := by omega
  have g1 : (i : Int) / 64 < (m : Int) := by omega
  have g2 : ((i : Int) / 64).toNat = i / 64 := by omega
  have hm : (m : Int) ≤ 9223372036854775807 := by omega
  have hi : (i : Int) ≤ 9223372036854775807 := by omega
  go_enter Tryz.func188, Tryz.ntmps188
  go_wp2
  go_loop [5, 6] (fun o i' => ∃ (k y : Nat), k ≤ i % 64 ∧ i' = .int .i64 k ∧ o = .int .u64 (y : Int) ∧ (y : Int) ≤ 18446744073709551615 ∧ Hid (y = x / 2 ^ k)) (fun _ i' => i % 64 - (intOf i').toNat)
  case atStart => exact ⟨0, x, by omega, rfl, rfl, by unfold W64 at hb; omega, Lib.hid (by simp)⟩
  case round =>
    obtain ⟨k, y, hk, rfl, rfl, hy, hyx⟩ := hrel
    by_cases hlt : k < i % 64
    · have h1 : (k : Int) < (i : Int) % 64 := by omega
      have hn : Hid (y / 2 = x / 2 ^ (k + 1)) := by rw [Hid, hyx.out, Nat.pow_succ, Nat.div_div_eq_div_mul]
      go_wp2
      go_round
      case rel => exact ⟨k + 1, y / 2, by omega, by go_num, by go_num, by omega, hn⟩
      case measure => simp [intOf]; omega
    · obtain rfl : k = i % 64 := by omega
      have h1 : ¬ (((i % 64 : Nat) : Int) < (i : Int) % 64) := by omega
      go_wp2
      go_ret
      exact ⟨ret_int (by rw [Z.out, ← hyx.out]; omega), rfl⟩
end Go.Proofs.YtdnjdglekifhpaaGreat
namespace Go.Proofs.YtdnjdglekifhpaaGreat
open Go.RowKit
theorem shr_bad (v : Value) (n : Int) (h : n < 0 ∨ 20000 < n) (w : World) :
    Calls Tryz.prog 187 #[v, .int .i64 n] w fun e w' => e = .returned (.tuple #[.slice none 0 0, .int .i64 1]) ∧ w = w' := by
  rcases h with h | h
  · go_enter Tryz.func187, Tryz.ntmps187
    go_wp2
    go_ret2
    exact ⟨rfl, rfl⟩
  · have h' : ¬ n < 0 := by omega
    go_enter Tryz.func187, Tryz.ntmps187
    go_wp2
    go_ret2
    exact ⟨rfl, rfl⟩
def sl (a n k : Nat) : List Nat := (List.range k).map fun j => a / 2 ^ n / W64 ^ j % W64
theorem sl_succ (a n k : Nat) : sl a n (k + 1) = sl a n k ++ [a / 2 ^ n / W64 ^ k % W64] := by simp [sl, List.range_succ]
theorem sl_len (a n k : Nat) : (sl a n k).length = k := by simp [sl]
theorem sl_bd (a n k : Nat) : Bd (sl a n k) := Bd.range _ _ (fun _ => Nat.mod_lt _ W64_pos)
set_option maxHeartbeats 2000000 in
theorem shr_f (v : Value) (a n : Nat) (hn : n ≤ 20000) (w : World) (h : IsN w v a) (hl : Sz a 1000000) :
    Calls Tryz.prog 187 #[v, .int .i64 n] w fun e w' => ∃ v', e = .returned (.tuple #[v', .int .i64 0]) ∧ IsN w' v' (a / 2 ^ n) ∧ Below w.heap.size w w' ∧ Fresh w.heap.size v' := by
  obtain ⟨A, c, rfl, hlc, hc, hbd, hr⟩ := h
  have HE := Lib.hid (shr_end a n (limbs a).length (by have := num_lt _ (limbs_bd a); rwa [num_limbs] at this))
  have HX := Lib.hid (fun i => lat_limbs a i)
  have HS := Lib.hid (fun i h => shr_limb a n i h)
  have hL : (limbs a).length ≤ 1000000 := hl
  clear hl
  obtain ⟨L, hLL⟩ : ∃ L, L = (limbs a).length := ⟨_, rfl⟩
  rw [← hLL] at HE hL hlc hr ⊢
  have HLL := Lib.hid hLL
  clear hLL
  have hL' : (L : Int) ≤ 1000000 := by omega
  have hown0 := World.ownsRow_lit w #[] 0 (base := w.heap.size) (e := 141) (size := 1) (Nat.le_refl _) (by unfold maxLen; omega) rfl
  go_enter Tryz.func187, Tryz.ntmps187
  go_wp2
  go_loopw [6, 7] (fun o i wr => ∃ (k : Nat), i = .int .i64 ((n : Int) / 64 + (k : Int)) ∧ (k = 0 ∨ n / 64 + k ≤ L) ∧ wr.ownsRow w.heap.size 141 1 o (sl a n k).length (us (sl a n k)) ∧ Below w.heap.size w wr) (fun _ i _ => L - (intOf i).toNat)
  case atStart => exact ⟨0, by simp, .inl rfl, hown0, (Below.refl _ w).alloc (Nat.le_refl _) _⟩
  case round =>
    obtain ⟨k, rfl, hk, hown, hB⟩ := hrel
    by_cases hlt : n / 64 + k < L
    · have hS := HS.out (n / 64 + k) (by omega)
      rw [show n / 64 + k - n / 64 = k from by omega] at hS
      obtain ⟨ad, rfl, _, hx⟩ := us_cell (hr.below hB) hlt
      have g0 : (0 : Int) ≤ (n : Int) / 64 + (k : Int) := by omega
      have g1 : (n : Int) / 64 + (k : Int) < (L : Int) := by omega
      have g2 : ((n : Int) / 64 + (k : Int)).toNat = n / 64 + k := by omega
      have hxb := hbd.lat (n / 64 + k)
      have hyb := hbd.lat (n / 64 + k + 1)
      have e1 := HX.out (n / 64 + k)
      have e2 := HX.out (n / 64 + k + 1)
      rw [← e1, ← e2] at hS
      clear e1 e2
      have hsucc := sl_succ a n k
      rw [← hS] at hsucc
      have HSU := Lib.hid hsucc
      clear hS hsucc
      have hy0 : ¬ (n / 64 + k + 1 < L) → lat (limbs a) (n / 64 + k + 1) = 0 := fun h => lat_ge (by have := HLL.out; omega)
      have hyc : n / 64 + k + 1 < L → wr.cell? (ad.add (n / 64 + k + 1)) = some (.int .u64 (lat (limbs a) (n / 64 + k + 1) : Nat)) := fun h => by
        obtain ⟨ad2, e, _, hy⟩ := us_cell (hr.below hB) h
        cases e; exact hy
      generalize lat (limbs a) (n / 64 + k) = x at *
      generalize lat (limbs a) (n / 64 + k + 1) = y at *
      obtain ⟨X, hX⟩ : ∃ X, X = x + W64 * y := ⟨_, rfl⟩
      have X1 : Hid (X % W64 = x ∧ X / W64 = y) := by rw [Hid, hX]; unfold W64 at *; omega
      rw [← hX] at HSU
      clear hX
      by_cases h2 : n / 64 + k + 1 < L
      · have hyc := hyc h2
        have g3 : (n : Int) / 64 + (k : Int) + 1 < (L : Int) := by omega
        have g4 : ((n : Int) / 64 + (k : Int) + 1).toNat = n / 64 + k + 1 := by omega
        clear hy0
        rw [Addr.add, if_neg (by omega)] at hyc
        have hxb' : (x : Int) ≤ 18446744073709551615 := by unfold W64 at hxb; omega
        have hyb' : (y : Int) ≤ 18446744073709551615 := by unfold W64 at hyb; omega
        go_wp2
        obtain ⟨wo, rfl⟩ : ∃ wo : World, wo = wr := ⟨_, rfl⟩
        go_loop [8, 9, 10] (fun xo yo io => ∃ (j : Nat) (x' y' : Nat), j ≤ n % 64 ∧ io = .int .i64 j ∧ xo = .int .u64 (x' : Int) ∧ yo = .int .u64 (y' : Int) ∧ (x' : Int) ≤ 18446744073709551615 ∧ (y' : Int) ≤ 18446744073709551615 ∧ Hid (X / 2 ^ j % W64 = x' ∧ X / 2 ^ j / W64 = y')) (fun _ _ io => n % 64 - (intOf io).toNat)
        case atStart => exact ⟨0, _, _, by omega, rfl, rfl, rfl, hxb', hyb', by have := X1.out; simpa [Hid] using this⟩
        case round =>
          obtain ⟨j, x', y', hj, rfl, rfl, rfl, hx', hy', hI⟩ := hrel
          by_cases hjt : j < n % 64
          · have q1 : (j : Int) < (n : Int) % 64 := by omega
            have hN : Hid (X / 2 ^ (j + 1) % W64 = x' / 2 + y' % 2 * 9223372036854775808 ∧ X / 2 ^ (j + 1) / W64 = y' / 2) := by
              obtain ⟨i1, i2⟩ := hI.out
              rw [Hid, Nat.pow_succ, ← Nat.div_div_eq_div_mul]
              generalize X / 2 ^ j = T at *
              unfold W64 at *
              omega
            have b1 : (y' : Int) % 2 * 9223372036854775808 ≤ 18446744073709551615 := by omega
            have b2 : (x' : Int) / 2 + (y' : Int) % 2 * 9223372036854775808 ≤ 18446744073709551615 := by omega
            go_wp2
            go_round
            case rel => exact ⟨j + 1, x' / 2 + y' % 2 * 9223372036854775808, y' / 2, by omega, by go_num, by go_num, by go_num, by omega, by omega, hN⟩
            case measure => simp [intOf]; omega
          · obtain rfl : j = n % 64 := by omega
            have q1 : ¬ (((n % 64 : Nat) : Int) < (n : Int) % 64) := by omega
            have hx'' := hI.out.1
            rw [hx''] at HSU
            clear hx''
            go_wp2_with (at_builtin; go_must (refine wpList_app1 _ rfl _ _ 28 141 (.int .u64 0) 8 rfl Tryz.underlying28 info_u64 rfl w.heap.size (.int .u64 (x' : Int)) rfl _ (sl a n k).length (us (sl a n k)) rfl (hown.alloc _) ⟨wo.heap.size, 0, none⟩ rfl (by exact new_cell _ _ _) (by rw [sl_len]; omega) (by omega) (by simp; exact Nat.le_succ_of_le hB.size) ?_; intro v' w1 hown' hgrow))
            refine ⟨⟨k + 1, by go_num, .inr (by omega), ?_, (hB.alloc hB.size _).grown hgrow (by simp; exact Nat.le_succ_of_le hB.size) (fun j e => (hown.lt j e).1)⟩, by simp [intOf]; omega⟩
            rw [HSU.out, us_snoc, List.length_append, List.length_singleton]
            exact hown'
      · obtain rfl := hy0 h2
        have g3 : ¬ ((n : Int) / 64 + (k : Int) + 1 < (L : Int)) := by omega
        clear hyc hy0
        have hxb' : (x : Int) ≤ 18446744073709551615 := by unfold W64 at hxb; omega
        have hyb' : ((0 : Nat) : Int) ≤ 18446744073709551615 := by omega
        go_wp2
        obtain ⟨wo, rfl⟩ : ∃ wo : World, wo = wr := ⟨_, rfl⟩
        go_loop [8, 9, 10] (fun xo yo io => ∃ (j : Nat) (x' y' : Nat), j ≤ n % 64 ∧ io = .int .i64 j ∧ xo = .int .u64 (x' : Int) ∧ yo = .int .u64 (y' : Int) ∧ (x' : Int) ≤ 18446744073709551615 ∧ (y' : Int) ≤ 18446744073709551615 ∧ Hid (X / 2 ^ j % W64 = x' ∧ X / 2 ^ j / W64 = y')) (fun _ _ io => n % 64 - (intOf io).toNat)
        case atStart => exact ⟨0, _, _, by omega, rfl, rfl, rfl, hxb', hyb', by have := X1.out; simpa [Hid] using this⟩
        case round =>
          obtain ⟨j, x', y', hj, rfl, rfl, rfl, hx', hy', hI⟩ := hrel
          by_cases hjt : j < n % 64
          · have q1 : (j : Int) < (n : Int) % 64 := by omega
            have hN : Hid (X / 2 ^ (j + 1) % W64 = x' / 2 + y' % 2 * 9223372036854775808 ∧ X / 2 ^ (j + 1) / W64 = y' / 2) := by
              obtain ⟨i1, i2⟩ := hI.out
              rw [Hid, Nat.pow_succ, ← Nat.div_div_eq_div_mul]
              generalize X / 2 ^ j = T at *
              unfold W64 at *
              omega
            have b1 : (y' : Int) % 2 * 9223372036854775808 ≤ 18446744073709551615 := by omega
            have b2 : (x' : Int) / 2 + (y' : Int) % 2 * 9223372036854775808 ≤ 18446744073709551615 := by omega
            go_wp2
            go_round
            case rel => exact ⟨j + 1, x' / 2 + y' % 2 * 9223372036854775808, y' / 2, by omega, by go_num, by go_num, by go_num, by omega, by omega, hN⟩
            case measure => simp [intOf]; omega
          · obtain rfl : j = n % 64 := by omega
            have q1 : ¬ (((n % 64 : Nat) : Int) < (n : Int) % 64) := by omega
            have hx'' := hI.out.1
            rw [hx''] at HSU
            clear hx''
            go_wp2_with (at_builtin; go_must (refine wpList_app1 _ rfl _ _ 28 141 (.int .u64 0) 8 rfl Tryz.underlying28 info_u64 rfl w.heap.size (.int .u64 (x' : Int)) rfl _ (sl a n k).length (us (sl a n k)) rfl (hown.alloc _) ⟨wo.heap.size, 0, none⟩ rfl (by exact new_cell _ _ _) (by rw [sl_len]; omega) (by omega) (by simp; exact Nat.le_succ_of_le hB.size) ?_; intro v' w1 hown' hgrow))
            refine ⟨⟨k + 1, by go_num, .inr (by omega), ?_, (hB.alloc hB.size _).grown hgrow (by simp; exact Nat.le_succ_of_le hB.size) (fun j e => (hown.lt j e).1)⟩, by simp [intOf]; omega⟩
            rw [HSU.out, us_snoc, List.length_append, List.length_singleton]
            exact hown'
    · have g1 : ¬ ((n : Int) / 64 + (k : Int) < (L : Int)) := by omega
      have hres : IsL wr u6 (sl a n k) := IsL.of_own hown (sl_bd _ _ _)
      have hnum : num (sl a n k) = a / 2 ^ n := by
        have := HE.out
        by_cases h0 : n / 64 + k ≤ L
        · rw [show L - n / 64 = k from by omega] at this; exact this
        · obtain rfl : k = 0 := by omega
          rw [show L - n / 64 = 0 from by omega] at this; exact this
      have hk10 : (sl a n k).length ≤ 10000000 := by rw [sl_len]; omega
      have HN := Lib.hid hnum
      clear hnum
      go_wp2_with fail
      refine (rbare_f _ _ _ hres hk10).mono ?_
      rintro e w' ⟨r, rfl, hr, hb, hf⟩
      go_wp2
      go_ret2
      exact ⟨_, rfl, by rw [← HN.out]; exact hr, hB.trans (hb.mono hB.size), hf.more hB.size⟩
end Go.Proofs.YtdnjdglekifhpaaGreat
namespace Go.Proofs.YtdnjdglekifhpaaGreat
open Go.RowKit
set_option maxRecDepth 100000 in
set_option maxHeartbeats 2000000 in
theorem divmod_less (va vb : Value) (a b : Nat) (w : World) (ha : IsN w va a) (hb : IsN w vb b) (sa : Sz a 1000000) (sb : Sz b 1000000) (h0 : 0 < b) (h : bl a < bl b) :
    Calls Tryz.prog 135 #[va, vb] w fun e w' => ∃ q r, e = .returned (.tuple #[q, r, .int .i64 0]) ∧ IsN w' q (a / b) ∧ IsN w' r (a % b) ∧ Below w.heap.size w w' := by
  have hlt := less_bl h
  rw [Nat.div_eq_of_lt hlt, Nat.mod_eq_of_lt hlt]
  have hA := rbits_any va a w ha sa
  have hBb := rbits_any vb b w hb sb
  have hL : (limbs b).length ≠ 0 := fun e => by
    have := limbs_nil.1 (List.eq_nil_of_length_eq_zero e); omega
  have ha' := ha
  obtain ⟨A, ca, rfl, hca, hca2, hba, hra⟩ := ha
  obtain ⟨B, cb, rfl, _⟩ := hb
  obtain ⟨i0, hi, hz0, hz1, hz2⟩ := info_parts info_u64
  generalize (limbs b).length = Lb at *
  have hLb : (((Lb : Nat) : Int) == 0) = false := by simp; omega
  have hLb2 : decide (Lb = 0) = false := by simp; omega
  clear hL
  have hbl : (bl a : Int) - (bl b : Int) < 0 := by omega
  have x1 := sa.bl
  have y1 := sb.bl
  generalize bl a = x at *
  generalize bl b = y at *
  have sa' : (limbs a).length ≤ 1000000 := sa
  clear hlt h0 sb sa
  go_enter Tryz.func135, Tryz.ntmps135
  go_wp2_with fail
  refine hA.mono ?_
  rintro e w' ⟨rfl, rfl⟩
  go_wp2_with fail
  refine hBb.mono ?_
  rintro e w' ⟨rfl, rfl⟩
  have hown := World.ownsRow_lit (w.alloc (.cells #[] 141)) #[] 0 (base := w.heap.size) (e := 141) (size := 1) (by simp) (by unfold maxLen; omega) rfl
  rw [World.size_alloc] at hown
  go_wp2_with (at_builtin; go_must (refine wpList_append_any _ rfl _ _ _ rfl w.heap.size 141 i0 _ 1 8 Tryz.underlying28 hi hz0 hz1 hz2 rfl (by omega) _ 0 [] rfl hown w.heap.size A (limbs a).length ca (us (limbs a)) rfl ((hra.alloc (Nat.le_refl _) _).alloc (by simp) _) (us_one _) (by unfold maxLen; omega) (by omega) (by simp; omega) ?_; intro v' w' hown' hgrow hat))
  go_ret3
  have b0 : Below w.heap.size w ((w.alloc (.cells #[] 141)).alloc (.cells #[] 141)) := ((Below.refl _ w).alloc (Nat.le_refl _) _).alloc (by simp) _
  rw [Nat.zero_add, List.nil_append] at hown'
  exact ⟨_, _, rfl, by unfold IsN; rw [limbs_zero]; exact ⟨_, _, rfl, by simp, by simp, Bd.nil, ⟨by simp [us], fun h => absurd h (by simp)⟩⟩, IsN.of_own hown', b0.grown hgrow (by simp; omega) (fun g e => by cases e; simp)⟩
end Go.Proofs.YtdnjdglekifhpaaGreat
namespace Go.Proofs.YtdnjdglekifhpaaGreat
open Go.RowKit
structure DivS (w : World) (va vb : Value) (a b : Nat) (l : List Nat) (g : Nat) (rv : Value) (r : Nat) : Prop where
  ha : IsN w va a
  hb : IsN w vb b
  na : va.ownBlock ≠ some g
  nb : vb.ownBlock ≠ some g
  hr : IsN w rv r
  hf : rv.ownBlock ≠ some g
  hq : Arr w g l
section
variable {w w' : World} {va vb rv : Value} {a b g r : Nat} {l : List Nat}
theorem DivS.below (h : DivS w va vb a b l g rv r) (hb : Below w.heap.size w w') : DivS w' va vb a b l g rv r :=
  ⟨h.ha.below hb, h.hb.below hb, h.na, h.nb, h.hr.below hb, h.hf, h.hq.below hb h.hq.lt⟩
theorem DivS.store (h : DivS w va vb a b l g rv r) (i x : Nat) : DivS (w.setCell ⟨g, i, none⟩ (.int .u64 (x : Int))) va vb a b (l.set i x) g rv r :=
  ⟨h.ha.far h.na _, h.hb.far h.nb _, h.na, h.nb, h.hr.far h.hf _, h.hf, h.hq.set i x⟩
theorem DivS.put (h : DivS w va vb a b l g rv r) {rv' : Value} {r' : Nat} (hr : IsN w rv' r') (hf : rv'.ownBlock ≠ some g) : DivS w va vb a b l g rv' r' :=
  ⟨h.ha, h.hb, h.na, h.nb, hr, hf, h.hq⟩
theorem IsN.old (h : IsN w rv r) (hg : w.heap.size ≤ g) (hr : (limbs r).length ≠ 0) : rv.ownBlock ≠ some g := by
  obtain ⟨A, c, rfl, h1, h2, h3, h4⟩ := h
  obtain ⟨ad, rfl, hb, _⟩ := h4.2 (by omega)
  intro e
  have : ad.block = g := by simpa [Value.ownBlock] using e
  omega
theorem Arr.far {w : World} {g : Nat} {l : List Nat} (h : Arr w g l) {p : Addr} (hp : g ≠ p.block) (u : Value) : Arr (w.setCell p u) g l := (Below.heap_setCell w p u g hp).trans h
theorem set_set (l : List Nat) (i x y : Nat) : (l.set i x).set i y = l.set i y := by simp
end
set_option maxRecDepth 100000 in
set_option maxHeartbeats 4000000 in
theorem divmod_in (va vb : Value) (a b : Nat) (w : World) (ha : IsN w va a) (hb : IsN w vb b) (sa : Sz a 100000) (sb : Sz b 100000) (h0 : 0 < b) (h : bl b ≤ bl a) :
    Calls Tryz.prog 135 #[va, vb] w fun e w' => ∃ q r, e = .returned (.tuple #[q, r, .int .i64 0]) ∧ IsN w' q (a / b) ∧ IsN w' r (a % b) ∧ Below w.heap.size w w' := by
  have hA := fun w ha => rbits_any va a w ha (sa.fin (by omega))
  have hBb := fun w hb => rbits_any vb b w hb (sb.fin (by omega))
  have hL : (limbs b).length ≠ 0 := fun e => by
    have := limbs_nil.1 (List.eq_nil_of_length_eq_zero e); omega
  obtain ⟨s1, s2⟩ := start_shift a b h0
  obtain ⟨s3, s4⟩ := start_full a b
  have hshr := fun w ha n hn => shr_f va a n hn w ha (sa.fin (by omega))
  have hshx := fun w n hn => shr_bad va n hn w
  have hlq : a / b < W64 ^ (limbs a).length := Nat.lt_of_le_of_lt (Nat.div_le_self _ _) (lt_of_limbs_len (Nat.le_refl _))
  have hbl := (show Sz a (limbs a).length from Nat.le_refl _).bl
  have sL : (limbs a).length ≤ 100000 := sa
  have sr : ∀ r, r < b → Sz r 100000 := fun r hr => sb.le (Nat.le_of_lt hr)
  have hbit := fun w ha i hi h64 => bit_any va a i w ha hi h64
  obtain ⟨A, LA, cA, hvA, hLA⟩ := ha.open_
  obtain ⟨B, LB, cB, hvB, hLB⟩ := hb.open_
  rw [← hLA] at hlq hbl sL hbit
  rw [← hLB] at hL
  obtain ⟨t, ht⟩ : ∃ t, t = bl a - bl b := ⟨_, rfl⟩
  rw [← ht] at s1 s2
  have htb : (bl a : Int) - (bl b : Int) = t := by omega
  have hta : t ≤ bl a := by omega
  have hta1 : t + 1 ≤ bl a := by
    have : bl b ≠ 0 := fun e => by rw [bl_eq_zero] at e; omega
    omega
  have ybl := sb.bl
  have xa0 : 1 ≤ bl a := by omega
  have zq : qrow (a / b) (t + 1) LA = zeros LA := qrow_start _ _ _ s2
  have zq2 : qrow (a / b) (bl a) LA = zeros LA := qrow_start _ _ _ s4
  have hqe := qrow_zero (a / b) LA hlq
  have hmk := run_make_u64 28 Tryz.underlying28 LA LA rfl (by omega)
  have LAp : 0 < LA := by omega
  have LBz : decide (LB = 0) = false := by simp; omega
  have LBz2 : ((LB : Int) == 0) = false := by simp; omega
  generalize bl a = x at *
  generalize bl b = y at *
  have H1 := Lib.hid (And.intro hLA (And.intro hLB (And.intro ht (And.intro s1 (And.intro s2 (And.intro s3 (And.intro s4 (And.intro zq (And.intro zq2 hqe)))))))))
  clear hLA hLB ht s1 s2 s3 s4 zq zq2 hqe hL hlq
  subst hvA hvB
  by_cases hc : t + 1 ≤ 20000
  · have hc1 : (t : Int) + 1 ≤ 20000 := by omega
    have hshr := fun w ha => hshr w ha (t + 1) hc
    go_enter Tryz.func135, Tryz.ntmps135
    go_wp2_with fail
    refine (hA _ ha).mono ?_
    rintro e w' ⟨rfl, rfl⟩
    go_wp2_with fail
    refine (hBb _ hb).mono ?_
    rintro e w' ⟨rfl, rfl⟩
    go_wp2_with fail
    obtain ⟨g, hg⟩ : ∃ g, g = w.heap.size := ⟨_, rfl⟩
    have a0 := Arr.new w (zeros LA)
    have B0 : Below w.heap.size w (w.alloc (.cells (us (zeros LA)).toArray 141)) := (Below.refl _ w).alloc (Nat.le_refl _) _
    have ha1 := ha.below B0
    have hb1 := hb.below B0
    rw [← hg]
    rw [← hg] at a0
    have nA := ha.old (Nat.le_of_eq hg.symm) (by rw [← H1.out.1]; omega)
    have nB := hb.old (Nat.le_of_eq hg.symm) (by rw [← H1.out.2.1]; simpa using LBz)
    have HG := Lib.hid hg
    clear hg
    generalize w.alloc (.cells (us (zeros LA)).toArray 141) = W0 at *
    refine (hshr _ ha1).mono ?_
    rintro e w2 ⟨v2, rfl, h2, b2, f2⟩
    have f2' := f2.ne a0.lt
    have a0 := a0.below b2 a0.lt
    have hB := B0.trans (b2.mono B0.size)
    have S : DivS w2 (.slice A LA cA) (.slice B LB cB) a b (qrow (a / b) (t + 1) LA) g v2 (a / 2 ^ (t + 1)) := ⟨ha1.below b2, hb1.below b2, nA, nB, h2, f2', by rw [H1.out.2.2.2.2.2.2.2.1]; exact a0⟩
    go_wp2
    go_loopw [9, 11] (fun rv iv wr => ∃ (m r : Nat), iv = .int .i64 ((m : Int) - 1) ∧ m ≤ x ∧ r < b ∧ Hid (r = a / 2 ^ m % b) ∧ DivS wr (.slice A LA cA) (.slice B LB cB) a b (qrow (a / b) m LA) g rv r ∧ Below w.heap.size w wr) (fun _ iv _ => (intOf iv + 1).toNat)
    case atStart => exact ⟨t + 1, _, by go_num, by omega, by have := H1.out.2.2.2.1; rw [← this]; exact Nat.mod_lt _ h0, Lib.hid H1.out.2.2.2.1.symm, S, hB⟩
    case round =>
      clear S hA hBb hshr hshx hmk ha hb ha1 hb1 a0 h2 b2 hB B0 f2 f2' nA nB
      obtain ⟨m, r, rfl, hm, hrb, hr, S, hB⟩ := hrel
      rcases m with _ | i
      · rw [show (((0 : Nat) : Int) - 1) = -1 from rfl]
        have hq := S.hq
        have hqe := H1.out.2.2.2.2.2.2.2.2.2
        have hres := hq.isL (qrow_bd _ _ _) (by rw [qrow_len]; omega)
        rw [qrow_len] at hres
        have hlen : (qrow (a / b) 0 LA).length ≤ 10000000 := by rw [qrow_len]; omega
        have F := Lib.hid (And.intro hqe hr.out)
        clear hqe hr hq hbit sr
        go_wp2_with fail
        refine (rbare_any _ _ _ hres hlen).mono ?_
        rintro e w3 ⟨v3, rfl, h3, b3⟩
        have S := S.below b3
        go_wp2
        go_ret3
        obtain ⟨F1, F2⟩ := F.out
        refine ⟨_, _, rfl, by rw [← F1]; exact h3, ?_, hB.trans (b3.mono hB.size)⟩
        rw [Nat.pow_zero, Nat.div_one] at F2
        rw [← F2]; exact S.hr
      · rw [show (((i + 1 : Nat) : Int) - 1) = (i : Int) from by omega]
        obtain ⟨d1, d2⟩ := div_step a b i r h0 hr.out
        have hst := qrow_step (a / b) i LA (by omega)
        have hdb := ql_dbl (a / b) i
        have hlat := lat_qrow (a / b) (i + 1) LA (i / 64) (by omega)
        have hbit := fun w ha => hbit w ha i (by omega) (by omega)
        have hlen : (qrow (a / b) (i + 1) LA).length = LA := qrow_len _ _ _
        have cq := fun w (h : Arr w g (qrow (a / b) (i + 1) LA)) => h.cell (i := i / 64) (by rw [hlen]; omega)
        have fq := fun w l (h : Arr w g l) => h.frozen (i / 64)
        have cq2 := fun w u (h : Arr w g ((qrow (a / b) (i + 1) LA).set (i / 64) u)) => h.cell (i := i / 64) (by rw [List.length_set, hlen]; omega)
        rw [hlat] at cq
        have lat2 : ∀ u, lat ((qrow (a / b) (i + 1) LA).set (i / 64) u) (i / 64) = u := fun u => by rw [lat_set, if_pos ⟨rfl, by rw [hlen]; omega⟩]
        simp only [lat2] at cq2
        clear lat2
        generalize ql (a / b) (i + 1) (i / 64) = z at *
        have hc2 : a / 2 ^ i % 2 ≤ 1 := by omega
        have hof := fun w => rof_any (a / 2 ^ i % 2) (by unfold W64; omega) w
        generalize a / 2 ^ i % 2 = bit at *
        have sr' : ∀ k, k < b + b + 1 → (limbs k).length ≤ 1000000 := fun k hk => (((sb.add sb).add Sz.one).le (Nat.le_of_lt hk)).fin (by omega)
        have hadd := fun w v1 v2 (u1 u2 : Nat) h1 h2 (k1 : u1 < b + b + 1) (k2 : u2 < b + b + 1) => radd_f v1 v2 u1 u2 w h1 h2 (sr' _ k1) (sr' _ k2)
        have hcmp := fun w v1 h1 hb => rcmp_n v1 (.slice B LB cB) (r + r + bit) b w h1 hb
        have z2 : (z : Int) * 2 ≤ 18446744073709551615 := by unfold W64 at hdb; omega
        have z3 : ((z * 2 : Nat) : Int) + 1 ≤ 18446744073709551615 := by unfold W64 at hdb; omega
        have g0 : (0 : Int) ≤ (i : Int) / 64 := by omega
        have g1 : (i : Int) / 64 < (LA : Int) := by omega
        have g2 : ((i : Int) / 64).toNat = i / 64 := by omega
        have hib : (i : Int) ≤ 100000000 := by omega
        have hii : i ≤ x := by omega
        have kk1 : r < b + b + 1 := by omega
        have kk2 : r + r < b + b + 1 := by omega
        have kk3 : bit < b + b + 1 := by omega
        have kk4 : r + r + bit < b + b + 1 := by omega
        have HST := Lib.hid (And.intro hst (And.intro d1 (And.intro d2 hlen)))
        clear hst d1 d2 hdb hlat hlen sr
        go_wp2_with fail
        refine (hadd _ _ _ r r S.hr S.hr kk1 kk1).mono ?_
        rintro e w3 ⟨v3, rfl, h3, b3, _⟩
        have S := S.below b3
        have hB := hB.trans (b3.mono hB.size)
        go_wp2_with fail
        refine (hbit _ S.ha).mono ?_
        rintro e w' ⟨rfl, rfl⟩
        go_wp2_with fail
        refine (hof _).mono ?_
        rintro e w4 ⟨v4, rfl, h4, b4⟩
        have S := S.below b4
        have h3 := h3.below b4
        have hB := hB.trans (b4.mono hB.size)
        go_wp2_with fail
        refine (hadd _ _ _ _ _ h3 h4 kk2 kk3).mono ?_
        rintro e w5 ⟨v5, rfl, h5, b5, f5⟩
        have f5' := f5.ne S.hq.lt
        have S := (S.below b5).put h5 f5'
        have hB := hB.trans (b5.mono hB.size)
        have cq5 := cq _ S.hq
        have fq5 := fq _ _ S.hq
        have S := S.store (i / 64) (z * 2)
        rw [show ((z * 2 : Nat) : Int) = (z : Int) * 2 from by omega] at S
        have hgB := HG.out
        have hB := hB.setCell (p := ⟨g, i / 64, none⟩) (Nat.le_of_eq hgB.symm) (.int .u64 ((z : Int) * 2))
        clear hgB cq h3 h4 h5 f5 b3 b4 b5 hbit hof hadd
        go_wp2_with fail
        obtain ⟨w6, hw6⟩ : ∃ w6, w6 = w5.setCell ⟨g, i / 64, none⟩ (.int .u64 ((z : Int) * 2)) := ⟨_, rfl⟩
        rw [← hw6] at S hB
        rw [← hw6]
        clear hw6 cq5 fq5
        by_cases hle : b ≤ r + r + bit
        · have ec : cmpI ((r + r + bit : Nat) : Int) ((b : Nat) : Int) = cmpI (r + r + bit : Nat) b := rfl
          have hc0 : (0 : Int) ≤ cmpI ((r + r + bit : Nat) : Int) (b : Int) := by unfold cmpI; split <;> (try split) <;> omega
          have hsub := fun w v1 h1 hb => rsub_f v1 (.slice B LB cB) (r + r + bit) b w h1 hb (sr' _ kk4) (sr' _ (by omega)) hle
          generalize cmpI ((r + r + bit : Nat) : Int) (b : Int) = cc at *
          refine (hcmp _ _ S.hr S.hb).mono ?_
          rintro e w7 ⟨rfl, n7, rfl⟩
          have S := S.below (below_drewN (Below.refl _ _) n7)
          have hB := below_drewN hB n7
          generalize w6.drewN n7 = w7 at *
          have HSU := Lib.hid hsub
          have HQ := Lib.hid (And.intro cq2 fq)
          clear hsub hcmp cq2 fq
          go_wp2_with fail
          refine (HSU.out _ _ S.hr S.hb).mono ?_
          rintro e w8 ⟨v8, rfl, h8, b8, f8⟩
          have f8' := f8.ne S.hq.lt
          have S := (S.below b8).put h8 f8'
          have hB := hB.trans (b8.mono hB.size)
          have cq8 := HQ.out.1 _ _ S.hq
          have fq8 := HQ.out.2 _ _ S.hq
          have S := S.store (i / 64) (z * 2 + 1)
          rw [set_set, show ((z * 2 + 1 : Nat) : Int) = ((z * 2 : Nat) : Int) + 1 from by omega] at S
          have hgB := HG.out
          have hB := hB.setCell (p := ⟨g, i / 64, none⟩) (Nat.le_of_eq hgB.symm) (.int .u64 (((z * 2 : Nat) : Int) + 1))
          clear hgB h8 f8 b8
          obtain ⟨Z, hZ⟩ : ∃ Z, Z = z * 2 := ⟨_, rfl⟩
          rw [← hZ] at S hB z3 cq8
          have HZ := Lib.hid hZ
          have SB := Lib.hid (And.intro S hB)
          clear hZ S hB sr'
          go_wp2_with fail
          obtain ⟨S, hB⟩ := SB.out
          obtain ⟨E1, E2, _, _⟩ := HST.out
          obtain ⟨E3, E4⟩ := E2 hle
          refine ⟨⟨i, _, rfl, by omega, ?_, Lib.hid E3, ?_, hB⟩, by simp [intOf]⟩
          · rw [E3]; exact Nat.mod_lt _ h0
          · rw [E4, show 2 * z + 1 = Z + 1 from by rw [HZ.out]; omega] at E1
            rw [← E1]; exact S
        · have hc0 : cmpI ((r + r + bit : Nat) : Int) (b : Int) < 0 := by unfold cmpI; split <;> (try split) <;> omega
          have hlt : r + r + bit < b := by omega
          generalize cmpI ((r + r + bit : Nat) : Int) (b : Int) = cc at *
          refine (hcmp _ _ S.hr S.hb).mono ?_
          rintro e w7 ⟨rfl, n7, rfl⟩
          have S := S.below (below_drewN (Below.refl _ _) n7)
          have hB := below_drewN hB n7
          generalize w6.drewN n7 = w7 at *
          have SB := Lib.hid (And.intro S hB)
          have HLT := Lib.hid hlt
          have HII := Lib.hid hii
          have HH0 := Lib.hid h0
          clear S hB hcmp cq2 fq kk1 kk2 kk3 kk4 hle sr' hc2 hlt hii z2 z3 hib htb hta hta1 hbl hc hc1 hrb xa0 ybl h sa sb h0
          go_wp2_with fail
          obtain ⟨S, hB⟩ := SB.out
          obtain ⟨E1, _, E2, _⟩ := HST.out
          obtain ⟨E3, E4⟩ := E2 HLT.out
          refine ⟨⟨i, _, rfl, HII.out, ?_, Lib.hid E3, ?_, hB⟩, by simp [intOf]⟩
          · rw [E3]; exact Nat.mod_lt _ HH0.out
          · rw [E4, show 2 * z + 0 = z * 2 from by omega] at E1
            rw [← E1]; exact S
  · have hc1 : ¬ ((t : Int) + 1 ≤ 20000) := by omega
    go_enter Tryz.func135, Tryz.ntmps135
    go_wp2_with fail
    refine (hA _ ha).mono ?_
    rintro e w' ⟨rfl, rfl⟩
    go_wp2_with fail
    refine (hBb _ hb).mono ?_
    rintro e w' ⟨rfl, rfl⟩
    go_wp2_with fail
    obtain ⟨g, hg⟩ : ∃ g, g = w.heap.size := ⟨_, rfl⟩
    have a0 := Arr.new w (zeros LA)
    have B0 : Below w.heap.size w (w.alloc (.cells (us (zeros LA)).toArray 141)) := (Below.refl _ w).alloc (Nat.le_refl _) _
    have ha1 := ha.below B0
    have hb1 := hb.below B0
    have hbx := hshx (w.alloc (.cells (us (zeros LA)).toArray 141)) ((t : Int) + 1) (.inr (by omega))
    have hsz : (w.alloc (.cells (us (zeros LA)).toArray 141)).heap.size = w.heap.size + 1 := by simp
    rw [← hg] at hsz
    rw [← hg]
    rw [← hg] at a0
    have nA := ha.old (Nat.le_of_eq hg.symm) (by rw [← H1.out.1]; omega)
    have nB := hb.old (Nat.le_of_eq hg.symm) (by rw [← H1.out.2.1]; simpa using LBz)
    have HG := Lib.hid hg
    clear hg
    generalize w.alloc (.cells (us (zeros LA)).toArray 141) = W0 at *
    have HSZ := Lib.hid hsz
    clear hsz
    refine hbx.mono ?_
    rintro e w2 ⟨rfl, rfl⟩
    have B1 : Below W0.heap.size W0 (W0.alloc (.cells #[] 141)) := (Below.refl _ W0).alloc (Nat.le_refl _) _
    have hA2 := hA (W0.alloc (.cells #[] 141)) (ha1.below B1)
    go_wp2_with fail
    refine hA2.mono ?_
    rintro e w' ⟨rfl, rfl⟩
    have a0 := a0.below B1 a0.lt
    have hB := B0.trans (B1.mono B0.size)
    have S : DivS (W0.alloc (.cells #[] 141)) (.slice A LA cA) (.slice B LB cB) a b (qrow (a / b) x LA) g (.slice (some ⟨g + 1, 0, none⟩) 0 0) 0 :=
      ⟨ha1.below B1, hb1.below B1, nA, nB, by unfold IsN; rw [limbs_zero]; exact ⟨_, _, rfl, by simp, by simp, Bd.nil, ⟨by simp [us], fun h => absurd h (by simp)⟩⟩, by simp [Value.ownBlock], by rw [H1.out.2.2.2.2.2.2.2.2.1]; exact a0⟩
    have hsz := HSZ.out
    go_wp2
    go_loopw [9, 11] (fun rv iv wr => ∃ (m r : Nat), iv = .int .i64 ((m : Int) - 1) ∧ m ≤ x ∧ r < b ∧ Hid (r = a / 2 ^ m % b) ∧ DivS wr (.slice A LA cA) (.slice B LB cB) a b (qrow (a / b) m LA) g rv r ∧ Below w.heap.size w wr) (fun _ iv _ => (intOf iv + 1).toNat)
    case atStart => exact ⟨x, 0, by go_num, by omega, h0, Lib.hid H1.out.2.2.2.2.2.1, by first | exact S | (rw [hsz]; exact S), hB⟩
    case round =>
      clear S hA hBb hshr hshx hmk ha hb ha1 hb1 a0 hB B0 B1 hA2 hbx hsz nA nB
      obtain ⟨m, r, rfl, hm, hrb, hr, S, hB⟩ := hrel
      rcases m with _ | i
      · rw [show (((0 : Nat) : Int) - 1) = -1 from rfl]
        have hq := S.hq
        have hqe := H1.out.2.2.2.2.2.2.2.2.2
        have hres := hq.isL (qrow_bd _ _ _) (by rw [qrow_len]; omega)
        rw [qrow_len] at hres
        have hlen : (qrow (a / b) 0 LA).length ≤ 10000000 := by rw [qrow_len]; omega
        have F := Lib.hid (And.intro hqe hr.out)
        clear hqe hr hq hbit sr
        go_wp2_with fail
        refine (rbare_any _ _ _ hres hlen).mono ?_
        rintro e w3 ⟨v3, rfl, h3, b3⟩
        have S := S.below b3
        go_wp2
        go_ret3
        obtain ⟨F1, F2⟩ := F.out
        refine ⟨_, _, rfl, by rw [← F1]; exact h3, ?_, hB.trans (b3.mono hB.size)⟩
        rw [Nat.pow_zero, Nat.div_one] at F2
        rw [← F2]; exact S.hr
      · rw [show (((i + 1 : Nat) : Int) - 1) = (i : Int) from by omega]
        obtain ⟨d1, d2⟩ := div_step a b i r h0 hr.out
        have hst := qrow_step (a / b) i LA (by omega)
        have hdb := ql_dbl (a / b) i
        have hlat := lat_qrow (a / b) (i + 1) LA (i / 64) (by omega)
        have hbit := fun w ha => hbit w ha i (by omega) (by omega)
        have hlen : (qrow (a / b) (i + 1) LA).length = LA := qrow_len _ _ _
        have cq := fun w (h : Arr w g (qrow (a / b) (i + 1) LA)) => h.cell (i := i / 64) (by rw [hlen]; omega)
        have fq := fun w l (h : Arr w g l) => h.frozen (i / 64)
        have cq2 := fun w u (h : Arr w g ((qrow (a / b) (i + 1) LA).set (i / 64) u)) => h.cell (i := i / 64) (by rw [List.length_set, hlen]; omega)
        rw [hlat] at cq
        have lat2 : ∀ u, lat ((qrow (a / b) (i + 1) LA).set (i / 64) u) (i / 64) = u := fun u => by rw [lat_set, if_pos ⟨rfl, by rw [hlen]; omega⟩]
        simp only [lat2] at cq2
        clear lat2
        generalize ql (a / b) (i + 1) (i / 64) = z at *
        have hc2 : a / 2 ^ i % 2 ≤ 1 := by omega
        have hof := fun w => rof_any (a / 2 ^ i % 2) (by unfold W64; omega) w
        generalize a / 2 ^ i % 2 = bit at *
        have sr' : ∀ k, k < b + b + 1 → (limbs k).length ≤ 1000000 := fun k hk => (((sb.add sb).add Sz.one).le (Nat.le_of_lt hk)).fin (by omega)
        have hadd := fun w v1 v2 (u1 u2 : Nat) h1 h2 (k1 : u1 < b + b + 1) (k2 : u2 < b + b + 1) => radd_f v1 v2 u1 u2 w h1 h2 (sr' _ k1) (sr' _ k2)
        have hcmp := fun w v1 h1 hb => rcmp_n v1 (.slice B LB cB) (r + r + bit) b w h1 hb
        have z2 : (z : Int) * 2 ≤ 18446744073709551615 := by unfold W64 at hdb; omega
        have z3 : ((z * 2 : Nat) : Int) + 1 ≤ 18446744073709551615 := by unfold W64 at hdb; omega
        have g0 : (0 : Int) ≤ (i : Int) / 64 := by omega
        have g1 : (i : Int) / 64 < (LA : Int) := by omega
        have g2 : ((i : Int) / 64).toNat = i / 64 := by omega
        have hib : (i : Int) ≤ 100000000 := by omega
        have hii : i ≤ x := by omega
        have kk1 : r < b + b + 1 := by omega
        have kk2 : r + r < b + b + 1 := by omega
        have kk3 : bit < b + b + 1 := by omega
        have kk4 : r + r + bit < b + b + 1 := by omega
        have HST := Lib.hid (And.intro hst (And.intro d1 (And.intro d2 hlen)))
        clear hst d1 d2 hdb hlat hlen sr
        go_wp2_with fail
        refine (hadd _ _ _ r r S.hr S.hr kk1 kk1).mono ?_
        rintro e w3 ⟨v3, rfl, h3, b3, _⟩
        have S := S.below b3
        have hB := hB.trans (b3.mono hB.size)
        go_wp2_with fail
        refine (hbit _ S.ha).mono ?_
        rintro e w' ⟨rfl, rfl⟩
        go_wp2_with fail
        refine (hof _).mono ?_
        rintro e w4 ⟨v4, rfl, h4, b4⟩
        have S := S.below b4
        have h3 := h3.below b4
        have hB := hB.trans (b4.mono hB.size)
        go_wp2_with fail
        refine (hadd _ _ _ _ _ h3 h4 kk2 kk3).mono ?_
        rintro e w5 ⟨v5, rfl, h5, b5, f5⟩
        have f5' := f5.ne S.hq.lt
        have S := (S.below b5).put h5 f5'
        have hB := hB.trans (b5.mono hB.size)
        have cq5 := cq _ S.hq
        have fq5 := fq _ _ S.hq
        have S := S.store (i / 64) (z * 2)
        rw [show ((z * 2 : Nat) : Int) = (z : Int) * 2 from by omega] at S
        have hgB := HG.out
        have hB := hB.setCell (p := ⟨g, i / 64, none⟩) (Nat.le_of_eq hgB.symm) (.int .u64 ((z : Int) * 2))
        clear hgB cq h3 h4 h5 f5 b3 b4 b5 hbit hof hadd
        go_wp2_with fail
        obtain ⟨w6, hw6⟩ : ∃ w6, w6 = w5.setCell ⟨g, i / 64, none⟩ (.int .u64 ((z : Int) * 2)) := ⟨_, rfl⟩
        rw [← hw6] at S hB
        rw [← hw6]
        clear hw6 cq5 fq5
        by_cases hle : b ≤ r + r + bit
        · have ec : cmpI ((r + r + bit : Nat) : Int) ((b : Nat) : Int) = cmpI (r + r + bit : Nat) b := rfl
          have hc0 : (0 : Int) ≤ cmpI ((r + r + bit : Nat) : Int) (b : Int) := by unfold cmpI; split <;> (try split) <;> omega
          have hsub := fun w v1 h1 hb => rsub_f v1 (.slice B LB cB) (r + r + bit) b w h1 hb (sr' _ kk4) (sr' _ (by omega)) hle
          generalize cmpI ((r + r + bit : Nat) : Int) (b : Int) = cc at *
          refine (hcmp _ _ S.hr S.hb).mono ?_
          rintro e w7 ⟨rfl, n7, rfl⟩
          have S := S.below (below_drewN (Below.refl _ _) n7)
          have hB := below_drewN hB n7
          generalize w6.drewN n7 = w7 at *
          have HSU := Lib.hid hsub
          have HQ := Lib.hid (And.intro cq2 fq)
          clear hsub hcmp cq2 fq
          go_wp2_with fail
          refine (HSU.out _ _ S.hr S.hb).mono ?_
          rintro e w8 ⟨v8, rfl, h8, b8, f8⟩
          have f8' := f8.ne S.hq.lt
          have S := (S.below b8).put h8 f8'
          have hB := hB.trans (b8.mono hB.size)
          have cq8 := HQ.out.1 _ _ S.hq
          have fq8 := HQ.out.2 _ _ S.hq
          have S := S.store (i / 64) (z * 2 + 1)
          rw [set_set, show ((z * 2 + 1 : Nat) : Int) = ((z * 2 : Nat) : Int) + 1 from by omega] at S
          have hgB := HG.out
          have hB := hB.setCell (p := ⟨g, i / 64, none⟩) (Nat.le_of_eq hgB.symm) (.int .u64 (((z * 2 : Nat) : Int) + 1))
          clear hgB h8 f8 b8
          obtain ⟨Z, hZ⟩ : ∃ Z, Z = z * 2 := ⟨_, rfl⟩
          rw [← hZ] at S hB z3 cq8
          have HZ := Lib.hid hZ
          have SB := Lib.hid (And.intro S hB)
          clear hZ S hB sr'
          go_wp2_with fail
          obtain ⟨S, hB⟩ := SB.out
          obtain ⟨E1, E2, _, _⟩ := HST.out
          obtain ⟨E3, E4⟩ := E2 hle
          refine ⟨⟨i, _, rfl, by omega, ?_, Lib.hid E3, ?_, hB⟩, by simp [intOf]⟩
          · rw [E3]; exact Nat.mod_lt _ h0
          · rw [E4, show 2 * z + 1 = Z + 1 from by rw [HZ.out]; omega] at E1
            rw [← E1]; exact S
        · have hc0 : cmpI ((r + r + bit : Nat) : Int) (b : Int) < 0 := by unfold cmpI; split <;> (try split) <;> omega
          have hlt : r + r + bit < b := by omega
          generalize cmpI ((r + r + bit : Nat) : Int) (b : Int) = cc at *
          refine (hcmp _ _ S.hr S.hb).mono ?_
          rintro e w7 ⟨rfl, n7, rfl⟩
          have S := S.below (below_drewN (Below.refl _ _) n7)
          have hB := below_drewN hB n7
          generalize w6.drewN n7 = w7 at *
          have SB := Lib.hid (And.intro S hB)
          have HLT := Lib.hid hlt
          have HII := Lib.hid hii
          have HH0 := Lib.hid h0
          clear S hB hcmp cq2 fq kk1 kk2 kk3 kk4 hle sr' hc2 hlt hii z2 z3 hib htb hta hta1 hbl hc hc1 hrb xa0 ybl h sa sb h0
          go_wp2_with fail
          obtain ⟨S, hB⟩ := SB.out
          obtain ⟨E1, _, E2, _⟩ := HST.out
          obtain ⟨E3, E4⟩ := E2 HLT.out
          refine ⟨⟨i, _, rfl, HII.out, ?_, Lib.hid E3, ?_, hB⟩, by simp [intOf]⟩
          · rw [E3]; exact Nat.mod_lt _ HH0.out
          · rw [E4, show 2 * z + 0 = z * 2 from by omega] at E1
            rw [← E1]; exact S
end Go.Proofs.YtdnjdglekifhpaaGreat
namespace Go.Proofs.YtdnjdglekifhpaaGreat
open Go.RowKit
theorem divmod_any (va vb : Value) (a b : Nat) (w : World) (ha : IsN w va a) (hb : IsN w vb b) (sa : Sz a 100000) (sb : Sz b 100000) (h0 : 0 < b) :
    Calls Tryz.prog 135 #[va, vb] w fun e w' => ∃ q r, e = .returned (.tuple #[q, r, .int .i64 0]) ∧ IsN w' q (a / b) ∧ IsN w' r (a % b) ∧ Below w.heap.size w w' := by
  rcases Nat.lt_or_ge (bl a) (bl b) with h | h
  · exact divmod_less va vb a b w ha hb (sa.more (by omega)) (sb.more (by omega)) h0 h
  · exact divmod_in va vb a b w ha hb sa sb h0 h
set_option maxHeartbeats 1000000 in
theorem gcd_any (va vb : Value) (a b : Nat) (w : World) (ha : IsN w va a) (hb : IsN w vb b) (sa : Sz a 100000) (sb : Sz b 100000) :
    Calls Tryz.prog 116 #[va, vb] w fun e w' => ∃ v', e = .returned v' ∧ IsN w' v' (Nat.gcd a b) ∧ Below w.heap.size w w' := by
  obtain ⟨d, hd⟩ : ∃ d, d = Nat.gcd a b := ⟨_, rfl⟩
  have HD := Lib.hid hd
  rw [← hd]
  clear hd
  go_enter Tryz.func116, Tryz.ntmps116
  go_wp2
  go_loopg [0, 1] b (fun k x y wr => ∃ (n : Nat), IsN wr x n ∧ IsN wr y k ∧ Sz n 100000 ∧ Sz k 100000 ∧ Hid (Nat.gcd n k = d) ∧ Below w.heap.size w wr)
  case atStart => exact ⟨a, ha, hb, sa, sb, Lib.hid HD.out.symm, Below.refl _ _⟩
  case round =>
    obtain ⟨n, hx, hy, sx, sy, hg, hB⟩ := hrel
    by_cases h0 : gk = 0
    · subst h0
      obtain ⟨A, c, rfl⟩ := (show ∃ A c, u1 = .slice A 0 c by unfold IsN at hy; rw [limbs_zero] at hy; obtain ⟨A, c, e, _⟩ := hy; exact ⟨A, c, e⟩)
      go_wp2
      go_ret
      exact ⟨_, rfl, by have := hg.out; rw [Nat.gcd_zero_right] at this; rw [← this]; exact hx, hB⟩
    · have hp : 0 < gk := Nat.pos_of_ne_zero h0
      have hL : 0 < (limbs gk).length := by
        rcases Nat.eq_zero_or_pos (limbs gk).length with e | e
        · exact absurd (limbs_nil.1 (List.eq_nil_of_length_eq_zero e)) h0
        · exact e
      have hD := divmod_any u0 u1 n gk wr hx hy sx sy hp
      obtain ⟨A, L, c, rfl, hLe⟩ := hy.open_
      rw [← hLe] at hL
      have HLe := Lib.hid hLe
      have H0 := Lib.hid h0
      clear hLe h0
      go_wp2_with fail
      refine hD.mono ?_
      rintro e w1 ⟨q, r, rfl, hq, hr, b1⟩
      have hy := hy.below b1
      have hB := hB.trans (b1.mono hB.size)
      clear hD hx b1
      go_wp2
      go_roundg (n % gk)
      case rel => exact ⟨gk, hy, hr, sy, sx.le (Nat.mod_le _ _), Lib.hid (by rw [← hg.out, Nat.gcd_comm gk, Nat.gcd_comm n, Nat.gcd_rec gk n]), hB⟩
      case measure => exact Nat.mod_lt _ hp
end Go.Proofs.YtdnjdglekifhpaaGreat
namespace Go.Proofs.YtdnjdglekifhpaaGreat
open Go.RowKit
attribute [local go_sem ↓] Go.wp_at_zero Go.wp_at_succ
set_option maxHeartbeats 1000000 in
theorem rzof_any (n : Int) (h0 : -9223372036854775808 ≤ n) (h1 : n ≤ 9223372036854775807) (w : World) :
    Calls Tryz.prog 76 #[.int .i64 n] w fun e w' => ∃ v', e = .returned v' ∧ IsZ w' v' n ∧ Below w.heap.size w w' := by
  have hx : n.natAbs < W64 := by unfold W64; omega
  obtain ⟨c, hc⟩ : ∃ c, c = sided (decide (n < 0)) n.natAbs := ⟨_, rfl⟩
  have KEY : Hid (∀ w' v', IsZ w' v' c → IsZ w' v' n) := by
    rw [hc, sided_of]; exact fun _ _ h => h
  have hM := fun v w hn => rmade_any (decide (n < 0)) v n.natAbs w hn
  rw [← hc] at hM
  clear hc
  obtain ⟨W0, hW, hR, hB⟩ := box1 w 30 #[.bool false, .slice none 0 0]
  obtain ⟨g, hg⟩ : ∃ g, g = w.heap.size := ⟨_, rfl⟩
  have hW' := Lib.hid (And.intro hW hg)
  rw [← hg] at hR
  clear hW hg
  by_cases hn : n < 0
  · have hO := fun w => rof_any n.natAbs hx w
    rw [show (n.natAbs : Int) = -(n + 1) + 1 from by omega] at hO
    rw [decide_eq_true hn] at hM
    go_enter Tryz.func76, Tryz.ntmps76
    go_wp2_with fail
    rw [← hW'.out.1, ← hW'.out.2]
    refine (hO _).mono ?_
    rintro e w1 ⟨v1, rfl, h1, b1⟩
    have hR := hR.below b1 hR.lt
    have hB := hB.trans (b1.mono hB.size)
    go_wp2_with fail
    refine (hM _ _ h1).mono ?_
    rintro e w2 ⟨v2, rfl, ⟨n2, rfl, h2⟩, b2⟩
    obtain ⟨A2, L2, C2, rfl⟩ := h2.frm
    have hR := hR.below b2 hR.lt
    have hB := hB.trans (b2.mono hB.size)
    clear hM hO
    obtain ⟨p1, p2, p3⟩ := put2 hR (.bool (decide (c < 0))) (.slice A2 L2 C2) (by simp [noU]) hB (by rw [hW'.out.2]; omega)
    have q0 := hR.cell 0
    have q1 := hR.cell 1
    have z0 := hR.frozen 0
    have z1 := hR.frozen 1
    have P := Lib.hid (And.intro (KEY.out _ _ (⟨_, rfl, p2 _ _ h2⟩ : IsZ _ (.agg #[.bool (decide (c < 0)), .slice A2 L2 C2]) _)) (And.intro p3 p1.cells2))
    clear p1 p2 p3
    go_wp2
    obtain ⟨P1, P2, P3, P4⟩ := P.out
    exact bodyPost_ret (v := .agg #[.bool (decide (c < 0)), .slice A2 L2 C2]) (by simp [results, Tryz.results76, go_sem, P3, P4]) rfl ⟨_, rfl, P1, P2⟩
  · have hO := fun w => rof_any n.natAbs hx w
    rw [show (n.natAbs : Int) = n from by omega] at hO
    rw [decide_eq_false hn] at hM
    have hn0 : 0 ≤ n := by omega
    have hw : IntKind.u64.wrap n = n := by rw [IntKind.wrap_u64]; omega
    go_enter Tryz.func76, Tryz.ntmps76
    go_wp2_with fail
    rw [← hW'.out.1, ← hW'.out.2]
    refine (hO _).mono ?_
    rintro e w1 ⟨v1, rfl, h1, b1⟩
    have hR := hR.below b1 hR.lt
    have hB := hB.trans (b1.mono hB.size)
    go_wp2_with fail
    refine (hM _ _ h1).mono ?_
    rintro e w2 ⟨v2, rfl, ⟨n2, rfl, h2⟩, b2⟩
    obtain ⟨A2, L2, C2, rfl⟩ := h2.frm
    have hR := hR.below b2 hR.lt
    have hB := hB.trans (b2.mono hB.size)
    clear hM hO
    obtain ⟨p1, p2, p3⟩ := put2 hR (.bool (decide (c < 0))) (.slice A2 L2 C2) (by simp [noU]) hB (by rw [hW'.out.2]; omega)
    have q0 := hR.cell 0
    have q1 := hR.cell 1
    have z0 := hR.frozen 0
    have z1 := hR.frozen 1
    have P := Lib.hid (And.intro (KEY.out _ _ (⟨_, rfl, p2 _ _ h2⟩ : IsZ _ (.agg #[.bool (decide (c < 0)), .slice A2 L2 C2]) _)) (And.intro p3 p1.cells2))
    clear p1 p2 p3
    go_wp2
    obtain ⟨P1, P2, P3, P4⟩ := P.out
    exact bodyPost_ret (v := .agg #[.bool (decide (c < 0)), .slice A2 L2 C2]) (by simp [results, Tryz.results76, go_sem, P3, P4]) rfl ⟨_, rfl, P1, P2⟩
theorem limb1 {n : Nat} (h : n < W64) : (limbs n).length ≤ 1 ∧ lat (limbs n) 0 = n := by
  refine ⟨limbs_len_le (by rwa [Nat.pow_one]), ?_⟩
  rw [lat_limbs, Nat.pow_zero, Nat.div_one, Nat.mod_eq_of_lt h]
end Go.Proofs.YtdnjdglekifhpaaGreat
namespace Go.Proofs.YtdnjdglekifhpaaGreat
open Go.RowKit
attribute [local go_sem ↓] Go.wp_at_zero Go.wp_at_succ
theorem sided_add_same (s : Bool) (x y : Nat) : sided s x + sided s y = sided s (x + y) := by cases s <;> simp [sided] <;> omega
theorem sided_add_ge (s t : Bool) (x y : Nat) (h : s ≠ t) (hle : y ≤ x) : sided s x + sided t y = sided s (x - y) := by cases s <;> cases t <;> simp [sided] at * <;> omega
theorem sided_add_lt (s t : Bool) (x y : Nat) (h : s ≠ t) (hlt : x < y) : sided s x + sided t y = sided t (y - x) := by cases s <;> cases t <;> simp [sided] at * <;> omega
end Go.Proofs.YtdnjdglekifhpaaGreat
namespace Go.Proofs.YtdnjdglekifhpaaGreat
open Go.RowKit
attribute [local go_sem ↓] Go.wp_at_zero Go.wp_at_succ
def IsQ (w : World) (v : Value) (r : Rat) : Prop := ∃ pn qn, v = .agg #[.bool (decide (r.num < 0)), pn, qn] ∧ IsN w pn r.num.natAbs ∧ IsN w qn r.den
theorem IsQ.below {w w' : World} {v : Value} {r : Rat} (h : IsQ w v r) (hb : Below w.heap.size w w') : IsQ w' v r := by
  obtain ⟨pn, qn, e, h1, h2⟩ := h; exact ⟨pn, qn, e, h1.below hb, h2.below hb⟩
theorem IsN.pos {w : World} {v : Value} {n : Nat} (h : IsN w v n) (h0 : 0 < n) : ∃ A L c, v = .slice A L c ∧ 0 < L := by
  obtain ⟨A, L, c, e, hL⟩ := h.open_
  refine ⟨A, L, c, e, ?_⟩
  rw [hL]; exact List.length_pos_iff.2 (fun e => by have := limbs_nil.1 e; omega)
set_option maxHeartbeats 2000000 in
theorem rqmake_any (vp vq : Value) (p : Int) (q : Nat) (w : World) (hp : IsZ w vp p) (hq : IsN w vq q) (sp : Sz p.natAbs 100000) (sq : Sz q 100000) (h0 : 0 < q) :
    Calls Tryz.prog 70 #[vp, vq] w fun e w' => ∃ v', e = .returned (.tuple #[v', .int .i64 0]) ∧ IsQ w' v' (mkRat p q) ∧ Below w.heap.size w w' := by
  obtain ⟨np, rfl, hp⟩ := hp
  obtain ⟨m1, m2, m3⟩ := mk_num p q (by omega)
  have hgp : 0 < Nat.gcd p.natAbs q := Nat.gcd_pos_of_pos_right _ h0
  have hG := fun w hp hq => gcd_any np vq p.natAbs q w hp hq sp sq
  have hD1 := fun v w hp hg => divmod_any np v p.natAbs (Nat.gcd p.natAbs q) w hp hg sp (sq.le (Nat.gcd_le_right _ h0)) hgp
  have hD2 := fun v w hp hg => divmod_any vq v q (Nat.gcd p.natAbs q) w hp hg sq (sq.le (Nat.gcd_le_right _ h0)) hgp
  rw [← m1] at hD1
  rw [← m2] at hD2
  rw [← m3] at *
  generalize mkRat p q = r at *
  generalize Nat.gcd p.natAbs q = d at *
  generalize p.natAbs = x at *
  obtain ⟨Aq, Lq, Cq, rfl, hLq⟩ := hq.pos h0
  have hl1 : ((Lq : Int) == 0) = false := by simp; omega
  have hl2 : decide (Lq = 0) = false := by simp; omega
  clear m1 m2 m3 hLq h0 hgp sp sq
  obtain ⟨W0, hW, hT, hB⟩ := box2 w 30 32 #[.bool (decide (r.num < 0)), np] #[.bool false, .slice none 0 0, .slice none 0 0]
  obtain ⟨g, hg⟩ : ∃ g, g = w.heap.size := ⟨_, rfl⟩
  have hW' := Lib.hid (And.intro hW hg)
  rw [← hg] at hT
  clear hW hg
  have hp := hp.below hB
  have hq := hq.below hB
  obtain ⟨q00, q01⟩ := hT.1.cells2
  go_enter Tryz.func70, Tryz.ntmps70
  go_wp2_with fail
  rw [← hW'.out.1, ← hW'.out.2]
  refine (hG _ hp hq).mono ?_
  rintro e w1 ⟨v1, rfl, h1, b1⟩
  have hT := hT.below b1 hT.lt
  have hB := hB.trans (b1.mono hB.size)
  have hp := hp.below b1
  have hq := hq.below b1
  obtain ⟨q00, q01⟩ := hT.1.cells2
  go_wp2_with fail
  refine (hD1 _ _ hp h1).mono ?_
  rintro e w2 ⟨v2, r2, rfl, h2, hr2, b2⟩
  have hT := hT.below b2 hT.lt
  have hB := hB.trans (b2.mono hB.size)
  have h1 := h1.below b2
  have hq := hq.below b2
  obtain ⟨q00, q01⟩ := hT.1.cells2
  go_wp2_with fail
  refine (hD2 _ _ hq h1).mono ?_
  rintro e w3 ⟨v3, r3, rfl, h3, hr3, b3⟩
  have hT := hT.below b3 hT.lt
  have hB := hB.trans (b3.mono hB.size)
  have h2 := h2.below b3
  obtain ⟨q00, q01⟩ := hT.1.cells2
  have hR := hT.2
  obtain ⟨A2, L2, C2, rfl⟩ := h2.frm
  obtain ⟨A3, L3, C3, rfl⟩ := h3.frm
  obtain ⟨p1, p2, p3⟩ := put3 hR (.bool (decide (r.num < 0))) (.slice A2 L2 C2) (.slice A3 L3 C3) (by simp [noU]) hB (by rw [hW'.out.2]; omega)
  have q0 := hR.cell 0
  have z0 := hR.frozen 0
  have q1 := hR.cell 1
  have z1 := hR.frozen 1
  have q2 := hR.cell 2
  have z2 := hR.frozen 2
  have P := Lib.hid (And.intro (⟨_, _, rfl, p2 _ _ h2, p2 _ _ h3⟩ : IsQ _ (.agg #[.bool (decide (r.num < 0)), .slice A2 L2 C2, .slice A3 L3 C3]) r) (And.intro p3 p1.cells3))
  clear p1 p2 p3 hG hD1 hD2
  go_wp2
  obtain ⟨P1, P2, P3, P4, P5⟩ := P.out
  exact bodyPost_ret (v := .tuple #[.agg #[.bool (decide (r.num < 0)), .slice A2 L2 C2, .slice A3 L3 C3], .int .i64 0]) (by simp [results, Tryz.results70, go_sem, P3, P4, P5]) rfl ⟨_, rfl, P1, P2⟩
set_option maxHeartbeats 2000000 in
theorem rqof_any (n : Int) (h0 : -9223372036854775808 ≤ n) (h1 : n ≤ 9223372036854775807) (w : World) :
    Calls Tryz.prog 39 #[.int .i64 n] w fun e w' => ∃ v', e = .returned v' ∧ IsQ w' v' (n : Rat) ∧ Below w.heap.size w w' := by
  have hZ := fun w => rzof_any n h0 h1 w
  have hO := fun w => rof_any 1 (by unfold W64; omega) w
  obtain ⟨c, hc⟩ : ∃ c, c = n := ⟨_, rfl⟩
  have KEY : Hid (∀ w' b a d, IsN w' a c.natAbs → IsN w' d 1 → b = decide (c < 0) → IsQ w' (.agg #[.bool b, a, d]) (n : Rat)) := by
    rw [hc]; rintro w' b a d h1 h2 rfl; exact ⟨a, d, rfl, h1, h2⟩
  have hZ := fun w => (show Calls Tryz.prog 76 #[.int .i64 n] w fun e w' => ∃ v', e = .returned v' ∧ IsZ w' v' c ∧ Below w.heap.size w w' by rw [hc]; exact hZ w)
  clear hc
  obtain ⟨W0, hW, hR, hB⟩ := box1 w 32 #[.bool false, .slice none 0 0, .slice none 0 0]
  obtain ⟨g, hg⟩ : ∃ g, g = w.heap.size := ⟨_, rfl⟩
  have hW' := Lib.hid (And.intro hW hg)
  rw [← hg] at hR
  clear hW hg
  go_enter Tryz.func39, Tryz.ntmps39
  go_wp2_with fail
  rw [← hW'.out.1, ← hW'.out.2]
  refine (hZ _).mono ?_
  rintro e w1 ⟨v1, rfl, ⟨n1, rfl, h1⟩, b1⟩
  have hR := hR.below b1 hR.lt
  have hB := hB.trans (b1.mono hB.size)
  go_wp2_with fail
  refine (hO _).mono ?_
  rintro e w2 ⟨v2, rfl, h2, b2⟩
  have hR := hR.below b2 hR.lt
  have hB := hB.trans (b2.mono hB.size)
  have h1 := h1.below b2
  obtain ⟨A2, L2, C2, rfl⟩ := h1.frm
  obtain ⟨A3, L3, C3, rfl⟩ := h2.frm
  obtain ⟨p1, p2, p3⟩ := put3 hR (.bool (decide (c < 0))) (.slice A2 L2 C2) (.slice A3 L3 C3) (by simp [noU]) hB (by rw [hW'.out.2]; omega)
  have q0 := hR.cell 0
  have z0 := hR.frozen 0
  have q1 := hR.cell 1
  have z1 := hR.frozen 1
  have q2 := hR.cell 2
  have z2 := hR.frozen 2
  have P := Lib.hid (And.intro (KEY.out _ _ _ _ (p2 _ _ h1) (p2 _ _ h2) rfl) (And.intro p3 p1.cells3))
  clear p1 p2 p3 hZ hO
  go_wp2
  obtain ⟨P1, P2, P3, P4, P5⟩ := P.out
  exact bodyPost_ret (v := .agg #[.bool (decide (c < 0)), .slice A2 L2 C2, .slice A3 L3 C3]) (by simp [results, Tryz.results39, go_sem, P3, P4, P5]) rfl ⟨_, rfl, P1, P2⟩
end Go.Proofs.YtdnjdglekifhpaaGreat
namespace Go.Proofs.YtdnjdglekifhpaaGreat
open Go.RowKit
section
variable {w W w' : World} {v : Value} {z : Int} {n : Nat} {r : Rat} {l : List Nat}
theorem IsN.opn (h : IsN w v n) : ∃ A L C, v = .slice A L C ∧ IsN w (.slice A L C) n := by
  obtain ⟨A, L, C, rfl⟩ := h.frm; exact ⟨A, L, C, rfl, h⟩
theorem IsZ.opn (h : IsZ w v z) : ∃ s A L C, v = .agg #[.bool s, .slice A L C] ∧ IsZ w (.agg #[.bool s, .slice A L C]) z := by
  have h0 := h
  obtain ⟨nv, rfl, hn⟩ := h
  obtain ⟨A, L, C, rfl⟩ := hn.frm
  exact ⟨_, A, L, C, rfl, h0⟩
theorem IsQ.opn (h : IsQ w v r) : ∃ s A L C D M E, v = .agg #[.bool s, .slice A L C, .slice D M E] ∧ IsQ w (.agg #[.bool s, .slice A L C, .slice D M E]) r := by
  have h0 := h
  obtain ⟨pn, qn, rfl, hp, hq⟩ := h
  obtain ⟨A, L, C, rfl⟩ := hp.frm
  obtain ⟨D, M, E, rfl⟩ := hq.frm
  exact ⟨_, A, L, C, D, M, E, rfl, h0⟩
theorem IsQ.parts {s : Bool} {p q : Value} (h : IsQ w (.agg #[.bool s, p, q]) r) : s = decide (r.num < 0) ∧ IsZ w (.agg #[.bool s, p]) r.num ∧ IsN w q r.den := by
  obtain ⟨pn, qn, e, hp, hq⟩ := h
  cases e
  exact ⟨rfl, ⟨_, rfl, hp⟩, hq⟩
theorem IsZ.parts {s : Bool} {p : Value} (h : IsZ w (.agg #[.bool s, p]) z) : s = decide (z < 0) ∧ IsN w p z.natAbs := by
  obtain ⟨pn, e, hp⟩ := h
  cases e
  exact ⟨rfl, hp⟩
theorem IsL.filled (h : IsL w v l) (k : ∀ v l, IsL w v l → IsL W v l) : IsL W v l := k _ _ h
theorem IsN.filled (h : IsN w v n) (k : ∀ v l, IsL w v l → IsL W v l) : IsN W v n := k _ _ h
theorem IsZ.filled (h : IsZ w v z) (k : ∀ v l, IsL w v l → IsL W v l) : IsZ W v z := by
  obtain ⟨nv, e, hn⟩ := h; exact ⟨nv, e, hn.filled k⟩
theorem IsQ.filled (h : IsQ w v r) (k : ∀ v l, IsL w v l → IsL W v l) : IsQ W v r := by
  obtain ⟨pn, qn, e, hp, hq⟩ := h; exact ⟨pn, qn, e, hp.filled k, hq.filled k⟩
theorem IsZ.kept (h : IsZ w v z) (k : ∀ v n, IsN w v n → IsN W v n) : IsZ W v z := by
  obtain ⟨nv, e, hn⟩ := h; exact ⟨nv, e, k _ _ hn⟩
theorem IsQ.kept (h : IsQ w v r) (k : ∀ v n, IsN w v n → IsN W v n) : IsQ W v r := by
  obtain ⟨pn, qn, e, hp, hq⟩ := h; exact ⟨pn, qn, e, k _ _ hp, k _ _ hq⟩
end
section
variable {w : World} {R : Nat} {t : TypeId}
def Filled (w W : World) (R : Nat) (t : TypeId) (cs : Array Value) : Prop :=
  Blk W R t cs ∧ (∀ v l, IsL w v l → IsL W v l) ∧ (∀ g t' cs', Blk w g t' cs' → g ≠ R → Blk W g t' cs') ∧ (∀ (B : Nat) (w0 : World), B ≤ R → Below B w0 w → Below B w0 W)
theorem fill1 {a : Value} (hR : Blk w R t #[a]) (x : Value) (hcs : (#[a] : Array Value).all noU = true) : ∃ W, W = w.setCell ⟨R, 0, none⟩ x ∧ Filled w W R t #[x] :=
  ⟨_, rfl, by simpa using hR.set_ 0 x, fun v l h => h.keepBlk hR hcs (fun k hk => Below.heap_setCell w ⟨R, 0, none⟩ x k hk) (by simp [World.setCell]), fun g t' cs h hne => h.far (p := ⟨R, 0, none⟩) hne x, fun B w0 hBR hB => hB.setCell (p := ⟨R, 0, none⟩) hBR x⟩
theorem fill2 {a b : Value} (hR : Blk w R t #[a, b]) (x y : Value) (hcs : (#[a, b] : Array Value).all noU = true) : ∃ W, W = (w.setCell ⟨R, 0, none⟩ x).setCell ⟨R, 1, none⟩ y ∧ Filled w W R t #[x, y] :=
  ⟨_, rfl, by simpa using (hR.set_ 0 x).set_ 1 y, fun v l h => h.keepBlk hR hcs (fun k hk => (Below.heap_setCell _ ⟨R, 1, none⟩ y k hk).trans (Below.heap_setCell w ⟨R, 0, none⟩ x k hk)) (by simp [World.setCell]), fun g t' cs h hne => (h.far (p := ⟨R, 0, none⟩) hne x).far (p := ⟨R, 1, none⟩) hne y, fun B w0 hBR hB => (hB.setCell (p := ⟨R, 0, none⟩) hBR x).setCell (p := ⟨R, 1, none⟩) hBR y⟩
theorem fill3 {a b c : Value} (hR : Blk w R t #[a, b, c]) (x y z : Value) (hcs : (#[a, b, c] : Array Value).all noU = true) : ∃ W, W = ((w.setCell ⟨R, 0, none⟩ x).setCell ⟨R, 1, none⟩ y).setCell ⟨R, 2, none⟩ z ∧ Filled w W R t #[x, y, z] :=
  ⟨_, rfl, by simpa using ((hR.set_ 0 x).set_ 1 y).set_ 2 z, fun v l h => h.keepBlk hR hcs (fun k hk => (Below.heap_setCell _ ⟨R, 2, none⟩ z k hk).trans ((Below.heap_setCell _ ⟨R, 1, none⟩ y k hk).trans (Below.heap_setCell w ⟨R, 0, none⟩ x k hk))) (by simp [World.setCell]), fun g t' cs h hne => ((h.far (p := ⟨R, 0, none⟩) hne x).far (p := ⟨R, 1, none⟩) hne y).far (p := ⟨R, 2, none⟩) hne z, fun B w0 hBR hB => ((hB.setCell (p := ⟨R, 0, none⟩) hBR x).setCell (p := ⟨R, 1, none⟩) hBR y).setCell (p := ⟨R, 2, none⟩) hBR z⟩
theorem fill6 {a b c d e f : Value} (hR : Blk w R t #[a, b, c, d, e, f]) (x y z p q r : Value) (hcs : (#[a, b, c, d, e, f] : Array Value).all noU = true) : ∃ W, W = (((((w.setCell ⟨R, 0, none⟩ x).setCell ⟨R, 1, none⟩ y).setCell ⟨R, 2, none⟩ z).setCell ⟨R, 3, none⟩ p).setCell ⟨R, 4, none⟩ q).setCell ⟨R, 5, none⟩ r ∧ Filled w W R t #[x, y, z, p, q, r] :=
  ⟨_, rfl, by simpa using (((((hR.set_ 0 x).set_ 1 y).set_ 2 z).set_ 3 p).set_ 4 q).set_ 5 r, fun v l h => h.keepBlk hR hcs (fun k hk => (Below.heap_setCell _ ⟨R, 5, none⟩ r k hk).trans ((Below.heap_setCell _ ⟨R, 4, none⟩ q k hk).trans ((Below.heap_setCell _ ⟨R, 3, none⟩ p k hk).trans ((Below.heap_setCell _ ⟨R, 2, none⟩ z k hk).trans ((Below.heap_setCell _ ⟨R, 1, none⟩ y k hk).trans (Below.heap_setCell w ⟨R, 0, none⟩ x k hk)))))) (by simp [World.setCell]), fun g t' cs h hne => (((((h.far (p := ⟨R, 0, none⟩) hne x).far (p := ⟨R, 1, none⟩) hne y).far (p := ⟨R, 2, none⟩) hne z).far (p := ⟨R, 3, none⟩) hne p).far (p := ⟨R, 4, none⟩) hne q).far (p := ⟨R, 5, none⟩) hne r, fun B w0 hBR hB => (((((hB.setCell (p := ⟨R, 0, none⟩) hBR x).setCell (p := ⟨R, 1, none⟩) hBR y).setCell (p := ⟨R, 2, none⟩) hBR z).setCell (p := ⟨R, 3, none⟩) hBR p).setCell (p := ⟨R, 4, none⟩) hBR q).setCell (p := ⟨R, 5, none⟩) hBR r⟩
end
theorem Blk.q1 {w : World} {G : Nat} {t : TypeId} {a : Value} (h : Blk w G t #[a]) : w.cell? ⟨G, 0, none⟩ = some a := h.cell 0
theorem Blk.q2 {w : World} {G : Nat} {t : TypeId} {a b : Value} (h : Blk w G t #[a, b]) : w.cell? ⟨G, 0, none⟩ = some a ∧ w.cell? ⟨G, 1, none⟩ = some b := ⟨h.cell 0, h.cell 1⟩
theorem Blk.q3 {w : World} {G : Nat} {t : TypeId} {a b c : Value} (h : Blk w G t #[a, b, c]) : w.cell? ⟨G, 0, none⟩ = some a ∧ w.cell? ⟨G, 1, none⟩ = some b ∧ w.cell? ⟨G, 2, none⟩ = some c := ⟨h.cell 0, h.cell 1, h.cell 2⟩
theorem Blk.q4 {w : World} {G : Nat} {t : TypeId} {a b c d : Value} (h : Blk w G t #[a, b, c, d]) : w.cell? ⟨G, 0, none⟩ = some a ∧ w.cell? ⟨G, 1, none⟩ = some b ∧ w.cell? ⟨G, 2, none⟩ = some c ∧ w.cell? ⟨G, 3, none⟩ = some d := ⟨h.cell 0, h.cell 1, h.cell 2, h.cell 3⟩
theorem Blk.q5 {w : World} {G : Nat} {t : TypeId} {a b c d e : Value} (h : Blk w G t #[a, b, c, d, e]) : w.cell? ⟨G, 0, none⟩ = some a ∧ w.cell? ⟨G, 1, none⟩ = some b ∧ w.cell? ⟨G, 2, none⟩ = some c ∧ w.cell? ⟨G, 3, none⟩ = some d ∧ w.cell? ⟨G, 4, none⟩ = some e := ⟨h.cell 0, h.cell 1, h.cell 2, h.cell 3, h.cell 4⟩
theorem Blk.q6 {w : World} {G : Nat} {t : TypeId} {a b c d e f : Value} (h : Blk w G t #[a, b, c, d, e, f]) : w.cell? ⟨G, 0, none⟩ = some a ∧ w.cell? ⟨G, 1, none⟩ = some b ∧ w.cell? ⟨G, 2, none⟩ = some c ∧ w.cell? ⟨G, 3, none⟩ = some d ∧ w.cell? ⟨G, 4, none⟩ = some e ∧ w.cell? ⟨G, 5, none⟩ = some f := ⟨h.cell 0, h.cell 1, h.cell 2, h.cell 3, h.cell 4, h.cell 5⟩
theorem Blk.q9 {w : World} {G : Nat} {t : TypeId} {a b c d e f p q r : Value} (h : Blk w G t #[a, b, c, d, e, f, p, q, r]) : w.cell? ⟨G, 0, none⟩ = some a ∧ w.cell? ⟨G, 1, none⟩ = some b ∧ w.cell? ⟨G, 2, none⟩ = some c ∧ w.cell? ⟨G, 3, none⟩ = some d ∧ w.cell? ⟨G, 4, none⟩ = some e ∧ w.cell? ⟨G, 5, none⟩ = some f ∧ w.cell? ⟨G, 6, none⟩ = some p ∧ w.cell? ⟨G, 7, none⟩ = some q ∧ w.cell? ⟨G, 8, none⟩ = some r := ⟨h.cell 0, h.cell 1, h.cell 2, h.cell 3, h.cell 4, h.cell 5, h.cell 6, h.cell 7, h.cell 8⟩
end Go.Proofs.YtdnjdglekifhpaaGreat
namespace Go.Proofs.YtdnjdglekifhpaaGreat
open Go.RowKit
abbrev Eq3 := Bool × Value × Value
def cellsQ (e : Eq3) : List Value := [.bool e.1, e.2.1, e.2.2]
def flatQ (es : List Eq3) : List Value := es.flatMap cellsQ
def aggQ (e : Eq3) : Value := .agg #[.bool e.1, e.2.1, e.2.2]
def OkQ (w : World) (es : List Eq3) (rs : List Rat) : Prop := es.length = rs.length ∧ ∀ (i : Nat) (e : Eq3) (r : Rat), es[i]? = some e → rs[i]? = some r → IsQ w (aggQ e) r
def IsQs (w : World) (v : Value) (rs : List Rat) : Prop := ∃ (es : List Eq3) (A : Option Addr) (c : Nat), v = .slice A rs.length c ∧ rs.length ≤ c ∧ c ≤ 9223372036854775807 ∧ OkQ w es rs ∧ Reads w w.heap.size 3 A rs.length (flatQ es)
section
variable {w w' : World} {es : List Eq3} {rs : List Rat} {v : Value}
theorem flatQ_at : ∀ (es : List Eq3) (i j : Nat) (e : Eq3), es[i]? = some e → j < 3 → (flatQ es)[i * 3 + j]? = (cellsQ e)[j]?
  | [], _, _, _, h, _ => by simp at h
  | x :: r, 0, j, e, h, hj => by
    obtain rfl : x = e := by simpa using h
    unfold flatQ
    rw [List.flatMap_cons, List.getElem?_append_left (by simp [cellsQ]; omega), Nat.zero_mul, Nat.zero_add]
  | x :: r, i + 1, j, e, h, hj => by
    have h' : r[i]? = some e := by simpa using h
    have := flatQ_at r i j e h' hj
    unfold flatQ at *
    rw [List.flatMap_cons, List.getElem?_append_right (by simp [cellsQ]; omega), ← this]
    congr 1
    simp [cellsQ]; omega
theorem flatQ_append (a b : List Eq3) : flatQ (a ++ b) = flatQ a ++ flatQ b := by simp [flatQ]
theorem IsQ.slices {e : Eq3} {r : Rat} (h : IsQ w (aggQ e) r) : (∃ A L C, e.2.1 = .slice A L C) ∧ (∃ A L C, e.2.2 = .slice A L C) := by
  obtain ⟨s, A, L, C, D, M, E, e1, _⟩ := h.opn
  unfold aggQ at e1
  injection e1 with e1
  simp only [Array.mk.injEq, List.cons.injEq, and_true] at e1
  exact ⟨⟨_, _, _, e1.2.1⟩, ⟨_, _, _, e1.2.2⟩⟩
theorem OkQ.cell (h : OkQ w es rs) : ∀ u ∈ flatQ es, u.oneCell' = true ∧ noU u = true := by
  intro u hu
  obtain ⟨e, he, hu⟩ := List.mem_flatMap.1 hu
  obtain ⟨i, hi, rfl⟩ := List.getElem_of_mem he
  have hl := h.1
  obtain ⟨⟨A, L, C, e1⟩, ⟨B, M, D, e2⟩⟩ := (h.2 i es[i] rs[i] (List.getElem?_eq_getElem hi) (List.getElem?_eq_getElem (by omega))).slices
  simp only [cellsQ, e1, e2, List.mem_cons, List.not_mem_nil, or_false] at hu
  rcases hu with rfl | rfl | rfl <;> exact ⟨rfl, rfl⟩
theorem OkQ.below (h : OkQ w es rs) (hb : Below w.heap.size w w') : OkQ w' es rs := ⟨h.1, fun i e r h1 h2 => (h.2 i e r h1 h2).below hb⟩
theorem OkQ.kept (h : OkQ w es rs) (k : ∀ v n, IsN w v n → IsN w' v n) : OkQ w' es rs := ⟨h.1, fun i e r h1 h2 => (h.2 i e r h1 h2).kept k⟩
theorem OkQ.nil (w : World) : OkQ w [] [] := ⟨rfl, fun _ _ _ h => by simp at h⟩
theorem OkQ.snoc {e : Eq3} {r : Rat} (h : OkQ w es rs) (he : IsQ w (aggQ e) r) : OkQ w (es ++ [e]) (rs ++ [r]) := by
  refine ⟨by simp [h.1], fun i x y h1 h2 => ?_⟩
  have hl := h.1
  rcases Nat.lt_or_ge i es.length with hi | hi
  · rw [List.getElem?_append_left hi] at h1
    rw [List.getElem?_append_left (by omega)] at h2
    exact h.2 i x y h1 h2
  · rw [List.getElem?_append_right hi] at h1
    rw [List.getElem?_append_right (by omega)] at h2
    have h0 : i - es.length = 0 := by
      rcases Nat.eq_zero_or_pos (i - es.length) with h3 | h3
      · exact h3
      · rw [List.getElem?_eq_none (by rw [List.length_singleton]; exact h3)] at h1; cases h1
    have h0' : i - rs.length = 0 := by omega
    rw [h0] at h1; rw [h0'] at h2
    simp at h1 h2
    rw [← h1, ← h2]; exact he
theorem IsQs.below (h : IsQs w v rs) (hb : Below w.heap.size w w') : IsQs w' v rs := by
  obtain ⟨es, A, c, h1, h2, h3, h4, h5⟩ := h
  exact ⟨es, A, c, h1, h2, h3, h4.below hb, (h5.below hb).more hb.size⟩
theorem IsQs.nil (w : World) : IsQs w (.slice none 0 0) [] := ⟨[], none, 0, rfl, Nat.le_refl _, by omega, OkQ.nil w, Reads.none_⟩
theorem IsQs.len (h : IsQs w v rs) : ∃ A c, v = .slice A rs.length c ∧ rs.length ≤ c ∧ c ≤ 9223372036854775807 := by
  obtain ⟨es, A, c, rfl, h2, h3, _⟩ := h
  exact ⟨A, c, rfl, h2, h3⟩
theorem IsQs.at_ (h : IsQs w v rs) {i : Nat} (hi : i < rs.length) : ∃ (ad : Addr) (c : Nat) (s : Bool) (p q : Value), v = .slice (some ad) rs.length c ∧ ad.block < w.heap.size ∧
    w.cell? (ad.add (i * 3)) = some (.bool s) ∧ w.cell? ⟨(ad.add (i * 3)).block, (ad.add (i * 3)).off + 1, none⟩ = some p ∧ w.cell? ⟨(ad.add (i * 3)).block, (ad.add (i * 3)).off + 2, none⟩ = some q ∧ IsQ w (.agg #[.bool s, p, q]) rs[i] := by
  obtain ⟨es, A, c, rfl, h2, h3, h4, h5⟩ := h
  obtain ⟨ad, rfl, hb, hc⟩ := h5.2 (by omega)
  have hl := h4.1
  have he : es[i]? = some es[i] := List.getElem?_eq_getElem (by omega)
  have hq := h4.2 i es[i] rs[i] he (List.getElem?_eq_getElem hi)
  generalize es[i] = e at he hq
  obtain ⟨s, p, q⟩ := e
  have hx : ∀ j, 0 < j → (⟨(ad.add (i * 3)).block, (ad.add (i * 3)).off + j, none⟩ : Addr) = ad.add (i * 3 + j) := fun j hj => by
    rw [← add_of_add]; generalize ad.add (i * 3) = q
    unfold Addr.add; rw [if_neg (by omega)]
  refine ⟨ad, c, s, p, q, rfl, hb, hc _ _ ?_, (congrArg w.cell? (hx 1 (by omega))).trans (hc _ _ ?_), (congrArg w.cell? (hx 2 (by omega))).trans (hc _ _ ?_), hq⟩
  · have := flatQ_at es i 0 _ he (by omega)
    rw [Nat.add_zero] at this
    rw [this]; rfl
  all_goals rw [flatQ_at es i _ _ he (by omega)]; rfl
end
def NoUB (w : World) (v : Value) : Prop := ∀ g cs t fr, v.ownBlock = some g → w.heap[g]? = some (.cells cs t fr) → cs.all noU = true
theorem IsL.noUB {w w' : World} {u v : Value} {l : List Nat} {e : TypeId} {base size n : Nat} {xs : List Value} (h : IsL w u l) (hv : NoUB w v) (hown : w.ownsRow base e size v n xs) (hg : w.grownBy w' v.ownBlock) : IsL w' u l := by
  obtain ⟨A, c, rfl, h1, h2, h3, h4⟩ := h
  refine ⟨A, c, rfl, h1, h2, h3, h4.1, fun hn => ?_⟩
  obtain ⟨ad, rfl, hb, hc⟩ := h4.2 hn
  refine ⟨ad, rfl, Nat.lt_of_lt_of_le hb hg.size, fun j y hj => ?_⟩
  rw [← hc j y hj]
  refine World.cell?_of_block (hg.block _ (by rw [block_of_add]; exact hb) (fun e2 => ?_))
  rw [block_of_add] at e2
  have hl := h4.1
  have h0 := hc 0 _ (us_at l 0 (by rw [us_len] at hl; omega))
  rcases hown.2 with ⟨rfl, _⟩ | ⟨g, cap, cur, rfl, _, hh, _⟩
  · simp [Value.ownBlock] at e2
  · have hgb : ad.block = g := by simpa [Value.ownBlock] using e2
    have hall := hv g cur e (0, 0) rfl hh
    obtain ⟨b, off, sp⟩ := ad
    dsimp only at hgb; subst hgb
    rw [Addr.add, if_pos rfl] at h0
    have hsp : sp = none := World.cell?_spot h0
    subst hsp
    unfold World.cell? at h0
    simp only [hh] at h0
    have := Array.all_eq_true_iff_forall_mem.1 hall _ (Array.mem_of_getElem? h0)
    simp [noU] at this
theorem all_zero (z : Array Value) (hz : z.all noU = true) (n : Nat) : (Builtin.zeroCells z n).all noU = true := by
  rw [Array.all_eq_true_iff_forall_mem]
  intro u hu
  unfold Builtin.zeroCells at hu
  obtain ⟨i, hi, rfl⟩ := Array.mem_map.1 hu
  have h0 : 0 < z.size := by
    rcases Nat.eq_zero_or_pos z.size with h | h
    · rw [Array.mem_range, h, Nat.mul_zero] at hi; omega
    · exact h
  have hm : i % z.size < z.size := Nat.mod_lt _ h0
  rw [getElem!_pos z _ hm]
  exact Array.all_eq_true_iff_forall_mem.1 hz _ (Array.getElem_mem hm)
theorem all_append (a b : Array Value) (ha : a.all noU = true) (hb : b.all noU = true) : (a ++ b).all noU = true := by
  rw [Array.all_eq_true_iff_forall_mem] at *
  intro u hu
  rcases Array.mem_append.1 hu with h | h
  · exact ha u h
  · exact hb u h
theorem all_list (l : List Value) (h : ∀ u ∈ l, noU u = true) : l.toArray.all noU = true := by
  rw [Array.all_eq_true_iff_forall_mem]; intro u hu; exact h u (by simpa using hu)
theorem NoUB.at_ {w : World} {cs : Array Value} {t : TypeId} (g n c : Nat) (hg : w.heap[g]? = some (.cells cs t (0, 0))) (h : cs.all noU = true) : NoUB w (.slice (some ⟨g, 0, none⟩) n c) := by
  intro g' cs' t' fr' e1 e2
  have : g = g' := by simpa [Value.ownBlock] using e1
  subst this
  rw [hg] at e2
  cases e2; exact h
section
variable {P : Program} (w : World)
theorem run_append_noU (base : Nat) (t ty e : TypeId) (i : TypeInfo) (z : Value) (size bytes : Nat) (ht : P.underlying t = some (.slice e)) (hi : P.info? e = some i) (hz : i.zero = some z)
    (hsize : i.size = size) (hby : i.bytes = bytes) (hzs : z.cells.size = size) (hsz : 0 < size) (hzn : z.cells.all noU = true)
    (v : Value) (n : Nat) (xs : List Value) (hown : w.ownsRow base e size v n xs) (hno : NoUB w v)
    (a : Addr) (m c : Nat) (news : List Value) (hl : news.length = m * size) (hnews : ∀ j u, news[j]? = some u → w.cell? (a.add j) = some u) (h1 : ∀ u ∈ news, u.oneCell' = true) (h2 : ∀ u ∈ news, noU u = true) (hm : 0 < m)
    (h63 : n + m ≤ maxLen) (hbytes : (n + m) * bytes ≤ 140737488355328) (hbase : base ≤ w.heap.size) :
    ∃ v' w', (Builtin.append_ #[t, t] ty #[v, .slice (some a) m c]).run P w = .ok v' w' ∧ w'.ownsRow base e size v' (n + m) (xs ++ news) ∧ w.grownBy w' v.ownBlock ∧ NoUB w' v' ∧ (v'.ownBlock = v.ownBlock ∨ v'.ownBlock = some w.heap.size) := by
  obtain ⟨v', w', hrun, k1, k2, _, k5⟩ := run_append_own_at (P := P) w base t ty e i z size bytes ht hi hz hsize hby hzs hsz v n xs hown a m c news hl hnews h1 h63 hbytes hbase
  refine ⟨v', w', hrun, k1, k2, ?_, k5⟩
  clear k5
  subst hsize
  subst hby
  have hsmall : n + m ≤ 9223372036854775807 := by simp only [maxLen] at h63; omega
  have hN := all_list news h2
  rcases hown.2 with ⟨rfl, rfl⟩ | ⟨g, cap, cur, rfl, hbg, hg, hnc, hcm, hcs, htake⟩
  · have hr := run_append_nil (P := P) w t ty e i z ht hi hz a m c news hl hnews (by omega) (by omega) (by have hb := hbytes; simp only [Nat.zero_add] at hb; omega)
    rw [hr] at hrun
    cases hrun
    exact NoUB.at_ _ _ _ (heap_alloc_new w.drew _) (all_append _ _ hN (all_zero _ hzn _))
  · have hcur := hno g cur e (0, 0) rfl hg
    have hcurL : ∀ u ∈ cur.toList, noU u = true := fun u hu => Array.all_eq_true_iff_forall_mem.1 hcur u (by simpa using hu)
    by_cases hroom : n + m ≤ cap
    · have hfit : n * i.size + news.length ≤ cur.size := by rw [hl, hcs, ← Nat.add_mul]; exact Nat.mul_le_mul_right _ hroom
      have hr := run_append_room (P := P) w t ty e i ht hi g n cap cur hg a m c news hl hnews h1 hroom hfit
      rw [hr] at hrun
      cases hrun
      refine NoUB.at_ _ _ _ (setRow_heap w g cur _ e _ hg) (all_list _ fun u hu => ?_)
      rcases List.mem_append.1 hu with hu | hu
      · rcases List.mem_append.1 hu with hu | hu
        · exact hcurL u (List.mem_of_mem_take hu)
        · exact h2 u hu
      · exact hcurL u (List.mem_of_mem_drop hu)
    · have holds : ∀ j u, xs[j]? = some u → w.cell? ((⟨g, 0, none⟩ : Addr).add j) = some u := hown.cells (g := g) rfl
      have hr := run_append_grow (P := P) w t ty e i z ht hi hz ⟨g, 0, none⟩ n cap xs hown.1 holds a m c news hl hnews (by omega) (by omega) (growslice_fits (by omega) hbytes)
      rw [hr] at hrun
      cases hrun
      exact NoUB.at_ _ _ _ (heap_alloc_new w.drew _) (all_append _ _ (all_append _ _ (all_list _ fun u hu => hcurL u (by rw [← htake] at hu; exact List.mem_of_mem_take hu)) hN) (all_zero _ hzn _))
theorem wp_append_noU {o : Oper} {a : Act} {K : Act → World → Prop} {Q : Exit → Act → World → Prop} (s x : Operand) (t : TypeId)
    (ho : o.op = .call { callee := .builtin .append, args := #[s, x], argTypes := #[t, t] })
    (base : Nat) (e : TypeId) (i : TypeInfo) (z : Value) (size bytes : Nat) (ht : P.underlying t = some (.slice e)) (hi : P.info? e = some i) (hz : i.zero = some z)
    (hsize : i.size = size) (hby : i.bytes = bytes) (hzs : z.cells.size = size) (hsz : 0 < size) (hzn : z.cells.all noU = true)
    (v : Value) (n : Nat) (xs : List Value) (hs : a.eval s = v) (hown : w.ownsRow base e size v n xs) (hno : NoUB w v)
    (ad : Addr) (m c : Nat) (news : List Value) (hx : a.eval x = .slice (some ad) m c) (hl : news.length = m * size) (hnews : ∀ j u, news[j]? = some u → w.cell? (ad.add j) = some u) (h1 : ∀ u ∈ news, u.oneCell' = true) (h2 : ∀ u ∈ news, noU u = true) (hm : 0 < m)
    (h63 : n + m ≤ maxLen) (hbytes : (n + m) * bytes ≤ 140737488355328) (hbase : base ≤ w.heap.size)
    (h : ∀ v' w', w'.ownsRow base e size v' (n + m) (xs ++ news) → w.grownBy w' v.ownBlock → NoUB w' v' → (v'.ownBlock = v.ownBlock ∨ v'.ownBlock = some w.heap.size) → K (a.put o.dst v') w') : o.wp P a w K Q := by
  obtain ⟨v', w', hrun, k2, k3, k4, k5⟩ := run_append_noU (P := P) w base t o.type e i z size bytes ht hi hz hsize hby hzs hsz hzn v n xs hown hno ad m c news hl hnews h1 h2 hm h63 hbytes hbase
  unfold Oper.wp execOp
  simp only [ho, resolve, invoke, builtin, Sem.run_bind, Sem.run_pure, Result.andThen_ok, List.map_toArray, List.map_cons, List.map_nil, hs, hx, hrun]
  exact h v' w' k2 k3 k4 k5
theorem wpList_append_noU {ops : Array Oper} {rest : List Oper} {o : Oper} {a : Act} {Q : Exit → Act → World → Prop} (hgd : o.guard = none) (s x : Operand) (t : TypeId)
    (ho : o.op = .call { callee := .builtin .append, args := #[s, x], argTypes := #[t, t] })
    (base : Nat) (e : TypeId) (i : TypeInfo) (z : Value) (size bytes : Nat) (ht : P.underlying t = some (.slice e)) (hi : P.info? e = some i) (hz : i.zero = some z)
    (hsize : i.size = size) (hby : i.bytes = bytes) (hzs : z.cells.size = size) (hsz : 0 < size) (hzn : z.cells.all noU = true)
    (v : Value) (n : Nat) (xs : List Value) (hs : a.eval s = v) (hown : w.ownsRow base e size v n xs) (hno : NoUB w v)
    (ad : Addr) (m c : Nat) (news : List Value) (hx : a.eval x = .slice (some ad) m c) (hl : news.length = m * size) (hnews : ∀ j u, news[j]? = some u → w.cell? (ad.add j) = some u) (h1 : ∀ u ∈ news, u.oneCell' = true) (h2 : ∀ u ∈ news, noU u = true) (hm : 0 < m)
    (h63 : n + m ≤ maxLen) (hbytes : (n + m) * bytes ≤ 140737488355328) (hbase : base ≤ w.heap.size)
    (h : ∀ v' w', w'.ownsRow base e size v' (n + m) (xs ++ news) → w.grownBy w' v.ownBlock → NoUB w' v' → (v'.ownBlock = v.ownBlock ∨ v'.ownBlock = some w.heap.size) → wpList P ops Q rest (a.put o.dst v') w') : wpList P ops Q (o :: rest) a w :=
  wpList_plain hgd fun _ hK => wp_append_noU w s x t ho base e i z size bytes ht hi hz hsize hby hzs hsz hzn v n xs hs hown hno ad m c news hx hl hnews h1 h2 hm h63 hbytes hbase fun v' w' k2 k3 k4 k5 => hK _ _ (h v' w' k2 k3 k4 k5)
end
theorem info_rat : (Tryz.prog.info? 32).map (fun i => (i.zero, i.size, i.bytes)) = some (some (.agg #[.bool false, .slice none 0 0, .slice none 0 0]), 3, 56) := by kernel_rfl
theorem lit3_cells (w : World) (t : TypeId) (a b c : Value) : ∀ j u, [a, b, c][j]? = some u → (w.alloc (.cells #[a, b, c] t)).cell? ((⟨w.heap.size, 0, none⟩ : Addr).add j) = some u := by
  intro j u hu
  have hj : (⟨w.heap.size, 0, none⟩ : Addr).add j = ⟨w.heap.size, j, none⟩ := by
    unfold Addr.add
    by_cases h : j = 0
    · subst h; rfl
    · rw [if_neg h, Nat.zero_add]
  rw [hj, (Blk.new w t #[a, b, c]).cell j, ← hu]
  simp
def OwnQs (w : World) (base : Nat) (v : Value) (rs : List Rat) : Prop := ∃ es, OkQ w es rs ∧ w.ownsRow base 32 3 v rs.length (flatQ es) ∧ NoUB w v
section
variable {w w' : World} {base : Nat} {v v' : Value} {rs : List Rat}
theorem OwnQs.nil (w : World) (base : Nat) : OwnQs w base (.slice none 0 0) [] := ⟨[], OkQ.nil w, World.ownsRow_nil _ _ _ _, fun _ _ _ _ h => by simp [Value.ownBlock] at h⟩
theorem NoUB.below {n : Nat} {xs : List Value} {e : TypeId} {size : Nat} (h : NoUB w v) (hown : w.ownsRow base e size v n xs) (hb : Below w.heap.size w w') : NoUB w' v := by
  intro g cs t fr h1 h2
  refine h g cs t fr h1 ?_
  rw [← hb.block g (hown.lt g h1).2]; exact h2
theorem OwnQs.below (h : OwnQs w base v rs) (hb : Below w.heap.size w w') : OwnQs w' base v rs := by
  obtain ⟨es, h1, h2, h3⟩ := h
  exact ⟨es, h1.below hb, h2.kept (row := none) ⟨hb.os, hb.tape, hb.output, hb.size, fun k hk _ => hb.block k hk⟩ (by cases v.ownBlock <;> simp), h3.below h2 hb⟩
theorem own3_form {e : TypeId} {n : Nat} {xs : List Value} (h : w.ownsRow base e 3 v n xs) : ∃ (A : Option Addr) (c : Nat), v = .slice A n c ∧ n ≤ c ∧ c ≤ 9223372036854775807 ∧ Reads w w.heap.size 3 A n xs := by
  have h0 := h
  rcases h.2 with ⟨rfl, rfl⟩ | ⟨g, cap, cur, rfl, hg, hh, hn, hcap, hs, ht⟩
  · have : xs = [] := List.eq_nil_of_length_eq_zero (by simpa using h.1)
    subst this
    exact ⟨none, 0, rfl, Nat.le_refl _, by omega, Reads.none_⟩
  · exact ⟨_, _, rfl, hn, hcap, Reads.of_own h0⟩
theorem OwnQs.is (h : OwnQs w base v rs) : IsQs w v rs := by
  obtain ⟨es, h1, h2, _⟩ := h
  obtain ⟨A, c, e, k1, k2, k3⟩ := own3_form h2
  exact ⟨es, A, c, e, k1, k2, h1, k3⟩
theorem OwnQs.num {u : Value} {n : Nat} (h : OwnQs w base v rs) (hg : w.grownBy w' v.ownBlock) (hn : IsN w u n) : IsN w' u n := by
  obtain ⟨es, _, h2, h3⟩ := h
  exact IsL.noUB hn h3 h2 hg
theorem OwnQs.push {es : List Eq3} {e : Eq3} {r : Rat} (hok : OkQ w es rs) (hno : NoUB w v) (hrow : w.ownsRow base 32 3 v rs.length (flatQ es)) (he : IsQ w (aggQ e) r)
    (hown' : w'.ownsRow base 32 3 v' (rs.length + 1) (flatQ es ++ cellsQ e)) (hg : w.grownBy w' v.ownBlock) (hno' : NoUB w' v') : OwnQs w' base v' (rs ++ [r]) := by
  have k : ∀ u n, IsN w u n → IsN w' u n := fun u n h => IsL.noUB h hno hrow hg
  refine ⟨es ++ [e], (hok.kept k).snoc (he.kept k), ?_, hno'⟩
  rw [List.length_append, List.length_singleton, flatQ_append]
  have : flatQ [e] = cellsQ e := by simp [flatQ]
  rw [this]; exact hown'
theorem OwnQs.lt (h : OwnQs w base v rs) : ∀ g, v.ownBlock = some g → base ≤ g ∧ g < w.heap.size := by obtain ⟨_, _, h2, _⟩ := h; exact h2.lt
theorem OwnQs.far (h : OwnQs w base v rs) {X i : Nat} {u : Value} (hX : v.ownBlock ≠ some X) (k : ∀ v l, IsL w v l → IsL (w.setCell ⟨X, i, none⟩ u) v l) : OwnQs (w.setCell ⟨X, i, none⟩ u) base v rs := by
  obtain ⟨es, h1, h2, h3⟩ := h
  refine ⟨es, h1.kept (fun v n hn => k v _ hn), h2.kept (row := some X) ⟨rfl, rfl, rfl, by simp [World.setCell], fun j _ hne => Below.heap_setCell w ⟨X, i, none⟩ u j (fun e => hne (by rw [e]))⟩ (.inr hX), fun g cs t fr e1 e2 => h3 g cs t fr e1 ?_⟩
  rw [← Below.heap_setCell w ⟨X, i, none⟩ u g (fun e => hX (by rw [e1, e]))]; exact e2
end
end Go.Proofs.YtdnjdglekifhpaaGreat
namespace Go.Proofs.YtdnjdglekifhpaaGreat
open Go.RowKit
def Apart (X : Nat) (vo vo' : Value) (w w' : World) : Prop := (vo'.ownBlock = vo.ownBlock ∨ ∃ k, vo'.ownBlock = some k ∧ w.heap.size ≤ k) ∧ w.heap.size ≤ w'.heap.size ∧ ∀ g, g < w.heap.size → g ≠ X → vo.ownBlock ≠ some g → w'.heap[g]? = w.heap[g]?
theorem Apart.here (X : Nat) (vo : Value) {w W0 : World} (h : Below w.heap.size w W0) : Apart X vo vo w W0 := ⟨.inl rfl, h.size, fun g hg _ _ => h.block g hg⟩
theorem Apart.step {X i : Nat} {vo vi v8 : Value} {w wr w1 : World} {o : Obj} (h : Apart X vo vi w wr) (hg : (wr.alloc o).grownBy w1 vi.ownBlock) (hat : v8.ownBlock = vi.ownBlock ∨ v8.ownBlock = some (wr.alloc o).heap.size) (u : Value) : Apart X vo v8 w (w1.setCell ⟨X, i, none⟩ u) := by
  obtain ⟨h1, h2, h3⟩ := h
  have hs := hg.size
  rw [World.size_alloc] at hs
  have hsz : (w1.setCell ⟨X, i, none⟩ u).heap.size = w1.heap.size := by simp [World.setCell]
  refine ⟨?_, by omega, fun g hlt hX ho => ?_⟩
  · rcases hat with e | e
    · rw [e]; exact h1
    · exact .inr ⟨_, e, by rw [World.size_alloc]; omega⟩
  · rw [Below.heap_setCell w1 ⟨X, i, none⟩ u g hX, hg.block g (by rw [World.size_alloc]; omega) (fun e => ?_), Below.heap_alloc wr o g (by omega), h3 g hlt hX ho]
    rcases h1 with e1 | ⟨k, e1, e2⟩
    · rw [e1] at e; exact ho e.symm
    · rw [e1] at e; injection e with e; omega
theorem Apart.blk {X g : Nat} {vo vo' : Value} {w w' : World} {t : TypeId} {cs : Array Value} (h : Apart X vo vo' w w') (hb : Blk w g t cs) (hX : g ≠ X) (ho : vo.ownBlock ≠ some g) : Blk w' g t cs := (h.2.2 g hb.lt hX ho).trans hb
set_option maxRecDepth 100000 in
set_option maxHeartbeats 4000000 in
theorem quant1_any (s : Bool) (p q : Value) (r : Rat) (n : Nat) (X base : Nat) (vo : Value) (rs : List Rat) (w : World) (hq : IsQ w (.agg #[.bool s, p, q]) r) (hX : Blk w X 40 #[vo]) (ho : OwnQs w base vo rs) (hXb : X < base) (hb : base ≤ w.heap.size) (hn : rs.length + n ≤ 1000000) :
    Calls Tryz.prog 54 #[.agg #[.bool s, p, q], .int .i64 n, .pointer (some ⟨X, 0, none⟩)] w fun e w' => (∃ x, e = .returned x) ∧ (∃ vo', Blk w' X 40 #[vo'] ∧ OwnQs w' base vo' (rs ++ List.replicate n r) ∧ Apart X vo vo' w w') ∧ Below X w w' := by
  obtain ⟨i0, hi, hz0, hz1, hz2⟩ := info_parts info_rat
  obtain ⟨s', A, L, C, D, M, E, e1, hq'⟩ := hq.opn
  obtain ⟨rfl, rfl, rfl⟩ : s' = s ∧ p = .slice A L C ∧ q = .slice D M E := by
    injection e1 with e1; simp only [Array.mk.injEq, List.cons.injEq, and_true] at e1; exact ⟨by have := e1.1; injection this with this; exact this.symm, e1.2.1, e1.2.2⟩
  clear e1 hq
  obtain ⟨Y, hY⟩ : ∃ Y, Y = w.heap.size := ⟨_, rfl⟩
  have hbY : base ≤ Y := by omega
  obtain ⟨W0, eW0, hB0, bW0⟩ := box1 w 32 #[.bool s', .slice A L C, .slice D M E]
  rw [← hY] at hB0
  have hX0 := hX.below bW0 hX.lt
  have ha0 := Apart.here X vo bW0
  have hq0 := hq'.below bW0
  have ho0 := ho.below bW0
  have hvY : vo.ownBlock ≠ some Y := fun e => by have := (ho.lt Y e).2; omega
  have bX0 : Below X w W0 := bW0.mono (by omega)
  have hsz0 : Y < W0.heap.size := hB0.lt
  have EW := Lib.hid (And.intro eW0 hY)
  clear eW0 hY hX hq' ho bW0
  go_enter Tryz.func54, Tryz.ntmps54
  go_wp2_with fail
  rw [← EW.out.1, ← EW.out.2]
  go_loopw [6] (fun iV wr => ∃ (i : Nat) (v9 : Value), i ≤ n ∧ iV = .int .i64 i ∧ Blk wr X 40 #[v9] ∧ OwnQs wr base v9 (rs ++ List.replicate i r) ∧ Blk wr Y 32 #[.bool s', .slice A L C, .slice D M E] ∧ IsQ wr (.agg #[.bool s', .slice A L C, .slice D M E]) r ∧ v9.ownBlock ≠ some Y ∧ Below X w wr ∧ Apart X vo v9 w wr) (fun i _ => n - (RowKit.intOf i).toNat)
  case atStart => exact ⟨0, vo, Nat.zero_le _, rfl, hX0, by rw [List.replicate_zero, List.append_nil]; exact ho0, hB0, hq0, hvY, bX0, ha0⟩
  case round =>
    clear hX0 ho0 hB0 hq0 hvY bX0 ha0
    obtain ⟨i, vi, hin, rfl, hX1, ho1, hY1, hq1, hvY1, hB1, hA1⟩ := hrel
    by_cases hlt : i < n
    · obtain ⟨es, k1, k2, k3⟩ := ho1
      have hlen : (rs ++ List.replicate i r).length ≤ 1000000 := by rw [List.length_append, List.length_replicate]; omega
      have hrr : rs ++ List.replicate (i + 1) r = (rs ++ List.replicate i r) ++ [r] := by rw [List.replicate_succ', List.append_assoc]
      have HRR := Lib.hid hrr
      clear hrr
      obtain ⟨rl, erl⟩ : ∃ rl, rl = rs ++ List.replicate i r := ⟨_, rfl⟩
      rw [← erl] at k1 k2 hlen HRR
      clear erl
      obtain ⟨N, eN⟩ : ∃ N, N = rl.length := ⟨_, rfl⟩
      obtain ⟨A9, c9, ev9, _, _, _⟩ := own3_form k2
      rw [← eN] at k2 hlen ev9
      subst ev9
      have HN := Lib.hid eN
      clear eN
      have c0 : wr.cell? ⟨X, 0, none⟩ = some (.slice A9 N c9) := hX1.cell 0
      have c1 : wr.cell? ⟨Y, 0, none⟩ = some (.bool s') := hY1.cell 0
      have c2 : wr.cell? ⟨Y, 1, none⟩ = some (.slice A L C) := hY1.cell 1
      have c3 : wr.cell? ⟨Y, 2, none⟩ = some (.slice D M E) := hY1.cell 2
      have hXl := hX1.lt
      have hYl := hY1.lt
      have j0 : (i : Int) < (n : Int) := by omega
      have hnoA : NoUB (wr.alloc (.cells #[.bool s', .slice A L C, .slice D M E] 32)) (.slice A9 N c9) := k3.below k2 ((Below.refl _ _).alloc (Nat.le_refl _) _)
      have hkA : OkQ (wr.alloc (.cells #[.bool s', .slice A L C, .slice D M E] 32)) es rl := k1.below ((Below.refl _ _).alloc (Nat.le_refl _) _)
      have hqA : IsQ (wr.alloc (.cells #[.bool s', .slice A L C, .slice D M E] 32)) (.agg #[.bool s', .slice A L C, .slice D M E]) r := hq1.below ((Below.refl _ _).alloc (Nat.le_refl _) _)
      go_wp2_with (at_builtin; go_must (refine wpList_append_noU _ rfl _ _ 40 rfl base 32 i0 _ 3 56 Tryz.underlying40 hi hz0 hz1 hz2 rfl (by omega) (by simp [Value.cells, noU]) _ N (flatQ es) rfl (k2.alloc _) hnoA ⟨wr.heap.size, 0, none⟩ 1 1 (cellsQ (s', .slice A L C, .slice D M E)) rfl rfl (lit3_cells _ _ _ _ _) (by simp [cellsQ, Value.oneCell']) (by simp [cellsQ, noU]) (by omega) (by unfold maxLen; omega) (by omega) (by simp; omega) ?_; intro v' w1 hown' hgrow hno' hat; obtain ⟨A8, c8, ev8, _, _, _⟩ := own3_form hown'; subst ev8; have hXw : Blk w1 X 40 #[.slice A9 N c9] := (hgrow.block X (by simp; omega) (fun e => by have := (k2.lt X e.symm).1; omega)).trans ((Below.heap_alloc _ _ X hXl).trans hX1); have d0 : w1.cell? ⟨X, 0, none⟩ = some (.slice A9 N c9) := hXw.cell 0; have f0 := hXw.frozen 0))
      have hpush : OwnQs w1 base (.slice A8 (N + 1) c8) (rl ++ [r]) := OwnQs.push (e := (s', .slice A L C, .slice D M E)) hkA hnoA (by rw [← HN.out]; exact k2.alloc _) hqA (by rw [← HN.out]; exact hown') hgrow hno'
      have hYw : Blk w1 Y 32 #[.bool s', .slice A L C, .slice D M E] := (hgrow.block Y (by simp; omega) (fun e => hvY1 e.symm)).trans ((Below.heap_alloc _ _ Y hYl).trans hY1)
      have hqw : IsQ w1 (.agg #[.bool s', .slice A L C, .slice D M E]) r := hqA.kept (fun u n h => IsL.noUB h hnoA (k2.alloc _) hgrow)
      have hv8 : (Value.slice A8 (N + 1) c8).ownBlock ≠ some Y := fun e => by
        rcases hat with h | h
        · rw [h] at e; exact hvY1 e
        · rw [h] at e; injection e with e; simp at e; omega
      have hv9 : (Value.slice A8 (N + 1) c8).ownBlock ≠ some X := fun e => by have := (hown'.lt X e).1; omega
      have hBw : Below X w w1 := hB1.trans (((Below.refl X wr).alloc (by omega) _).grown hgrow (by simp; omega) (fun k e => by have := (k2.lt k e).1; omega))
      obtain ⟨W, eW, f1, f2, f3, f4⟩ := fill1 hXw (.slice A8 (N + 1) c8) (by simp [noU])
      rw [← eW]
      refine ⟨⟨i + 1, _, by omega, congrArg (Value.int .i64) (by omega), f1, ?_, f3 _ _ _ hYw (by omega), hqw.filled f2, hv8, f4 _ _ (Nat.le_refl _) hBw, by rw [eW]; exact hA1.step hgrow hat _⟩, by simp [RowKit.intOf]; omega⟩
      rw [HRR.out]
      subst eW
      exact hpush.far hv9 f2
    · obtain rfl : i = n := by omega
      go_wp2
      go_end0
      exact ⟨⟨_, rfl⟩, ⟨vi, hX1, ho1, hA1⟩, hB1⟩
end Go.Proofs.YtdnjdglekifhpaaGreat
namespace Go.Proofs.YtdnjdglekifhpaaGreat
theorem taken_digit {p hi lo c s k1 x b : Nat} (hp : hi * W64 + lo = p) (hlo : lo < W64) (hs : s = (lo + c + 0) % W64) (hk : k1 = (lo + c + 0) / W64) (hx : x < W64) (hb : b ≤ 1) (hc : c < W64) (hhi : hi + 1 < W64) :
    (x + W64 - s - b) % W64 + p + c + b = x + (hi + k1 + (if x < s + b then 1 else 0)) * W64 ∧ hi + k1 < W64 ∧ (x + W64 - s - b) % W64 < W64 := by
  have hdm := Nat.div_add_mod (lo + c + 0) W64
  have hm := Nat.mod_lt (lo + c + 0) W64_pos
  rw [← hs, ← hk] at hdm
  rw [← hs] at hm
  clear hs hk
  have hk1 : k1 ≤ 1 := by
    rcases Nat.lt_or_ge k1 2 with h | h
    · omega
    · have : W64 * 2 ≤ W64 * k1 := Nat.mul_le_mul_left _ h
      omega
  have h3 := Nat.mod_lt (x + W64 - s - b) W64_pos
  refine ⟨?_, by omega, h3⟩
  subst hp
  unfold W64 at *
  by_cases h : x < s + b
  · rw [if_pos h]
    rw [Nat.mod_eq_of_lt (by omega)]
    omega
  · rw [if_neg h]
    have e : x + 18446744073709551616 - s - b = (x - s - b) + 18446744073709551616 := by omega
    rw [e, Nat.add_mod_right, Nat.mod_eq_of_lt (by omega)]
    omega
theorem hi_small {q y hi lo : Nat} (hq : q < W64) (hy : y < W64) (h : hi * W64 + lo = q * y) : hi + 1 < W64 := by
  have h1 : q * y ≤ (W64 - 1) * (W64 - 1) := Nat.mul_le_mul (by omega) (by omega)
  have h2 : (W64 - 1) * (W64 - 1) < (W64 - 1) * W64 := by unfold W64; decide
  have h3 : hi * W64 < (W64 - 1) * W64 := by omega
  have := Nat.lt_of_mul_lt_mul_right h3
  omega
end Go.Proofs.YtdnjdglekifhpaaGreat
namespace Go.Proofs.YtdnjdglekifhpaaGreat
def TakenAt (L0 v : List Nat) (k q i : Nat) (L : List Nat) (c b : Nat) : Prop :=
  L.length = L0.length ∧ Bd L ∧ c < W64 ∧ b ≤ 1 ∧ L.take k = L0.take k ∧ L.drop (k + i) = L0.drop (k + i) ∧
    num ((L.drop k).take i) + q * num (v.take i) = num ((L0.drop k).take i) + (c + b) * W64 ^ i
theorem take_more {l : List Nat} {i : Nat} (h : i < l.length) : l.take (i + 1) = l.take i ++ [lat l i] := by
  rw [List.take_add_one, List.getElem?_eq_getElem h]
  simp [lat, h]
theorem lat_drop (l : List Nat) (k i : Nat) : lat (l.drop k) i = lat l (k + i) := by simp [lat]
theorem num_snoc (a : List Nat) (z : Nat) : num (a ++ [z]) = num a + W64 ^ a.length * z := by rw [num_append]; simp [num]
theorem TakenAt.step {L0 v L : List Nat} {k q i c b x y x' c1 b' : Nat} (h : TakenAt L0 v k q i L c b) (hi : i < v.length) (hk : k + v.length + 1 ≤ L0.length) (hx : x = lat L (k + i)) (hy : y = lat v i)
    (d : x' + q * y + c + b = x + (c1 + b') * W64) (hc : c1 < W64) (hb : b' ≤ 1) (hx' : x' < W64) : TakenAt L0 v k q (i + 1) (L.set (k + i) x') c1 b' := by
  obtain ⟨t1, t2, _, _, t5, t6, t7⟩ := h
  have hxl : lat L0 (k + i) = x := by
    rw [hx]
    have := congrArg (fun l => lat l 0) t6
    simp only [lat_drop, Nat.add_zero] at this
    exact this.symm
  refine ⟨by rw [List.length_set]; exact t1, t2.set _ hx', hc, hb, ?_, ?_, ?_⟩
  · rw [List.take_set_of_le (by omega)]; exact t5
  · rw [List.drop_set_of_lt (by omega)]
    have := congrArg (List.drop 1) t6
    rw [List.drop_drop, List.drop_drop] at this
    exact this
  · have e1 : ((L.set (k + i) x').drop k).take (i + 1) = (L.drop k).take i ++ [x'] := by
      rw [take_more (by rw [List.length_drop, List.length_set]; omega), lat_drop]
      congr 1
      · rw [List.drop_set, if_neg (by omega), show k + i - k = i by omega, List.take_set_of_le (Nat.le_refl _)]
      · rw [lat_set, if_pos ⟨rfl, by omega⟩]
    have e2 : ((L0.drop k).take (i + 1)) = (L0.drop k).take i ++ [x] := by
      rw [take_more (by rw [List.length_drop]; omega), lat_drop, hxl]
    rw [e1, e2, take_more hi, num_snoc, num_snoc, num_snoc, ← hy, Nat.pow_succ]
    have l1 : ((L.drop k).take i).length = i := by rw [List.length_take, List.length_drop]; omega
    have l2 : ((L0.drop k).take i).length = i := by rw [List.length_take, List.length_drop]; omega
    have l3 : (v.take i).length = i := by rw [List.length_take]; omega
    rw [l1, l2, l3]
    generalize W64 ^ i = K at *
    generalize num ((L.drop k).take i) = P at *
    generalize num ((L0.drop k).take i) = U at *
    generalize num (v.take i) = V at *
    have d2 := congrArg (fun z => K * z) d
    simp only [Nat.mul_add] at d2
    rw [Nat.mul_add, ← Nat.mul_assoc q K y, Nat.mul_comm q K, Nat.mul_assoc K q y]
    rw [Nat.add_mul] at t7
    have e3 : (c1 + b') * (K * W64) = K * (c1 * W64) + K * (b' * W64) := by
      rw [Nat.add_mul, Nat.mul_comm K W64, ← Nat.mul_assoc, ← Nat.mul_assoc, Nat.mul_comm (c1 * W64) K, Nat.mul_comm (b' * W64) K]
    rw [e3]
    rw [Nat.add_mul, Nat.mul_add, Nat.mul_comm c K, Nat.mul_comm b K] at *
    omega
end Go.Proofs.YtdnjdglekifhpaaGreat
namespace Go.Proofs.YtdnjdglekifhpaaGreat
theorem guess_more {B q r v1 v0 u0 n : Nat} (hn : q * v1 + r = n) (h : r * B + u0 < q * v0) : n * B + u0 < q * (v1 * B + v0) := by
  subst hn
  rw [Nat.add_mul, Nat.mul_add, ← Nat.mul_assoc]
  omega
theorem guess_stop {B q r v1 v0 u0 n : Nat} (hn : q * v1 + r = n) (h : q * v0 ≤ r * B + u0) : q * (v1 * B + v0) ≤ n * B + u0 := by
  subst hn
  rw [Nat.add_mul, Nat.mul_add, ← Nat.mul_assoc]
  omega
theorem guess_over {B q r v0 u0 : Nat} (hr : B ≤ r) (hq : q ≤ B) (hv : v0 ≤ B) : q * v0 ≤ r * B + u0 := by
  have h1 : q * v0 ≤ B * B := Nat.mul_le_mul hq hv
  have h2 : B * B ≤ r * B := Nat.mul_le_mul_right B hr
  omega
theorem guess_first {B v1 v0 u0 n : Nat} (hv : 0 < v1) (hu : u0 < B) : n * B + u0 < (n / v1 + 1) * (v1 * B + v0) := by
  have h1 : n < (n / v1 + 1) * v1 := by
    have := Nat.div_add_mod n v1
    have := Nat.mod_lt n hv
    rw [Nat.add_mul, Nat.one_mul, Nat.mul_comm]
    omega
  have h2 : (n + 1) * B ≤ (n / v1 + 1) * v1 * B := Nat.mul_le_mul_right B h1
  rw [Nat.mul_add, ← Nat.mul_assoc]
  rw [Nat.add_mul, Nat.one_mul] at h2
  have h3 : 0 ≤ (n / v1 + 1) * v0 := Nat.zero_le _
  omega
theorem guess_fig {B K U V U3 V2 U' V' q : Nat} (hU : U = U3 * K + U') (hU' : U' < K) (hV : V = V2 * K + V') (hV' : V' < K) (hB : B ≤ V2) (hlt : U < V * B) (hq : q < B) (h1 : q * V2 ≤ U3) (h2 : U3 < (q + 1) * V2 ∨ q + 1 = B) :
    U / V ≤ q ∧ q ≤ U / V + 1 := by
  have hK : 0 < K := by omega
  have hV0 : 0 < V := by
    have : 0 < V2 * K := Nat.mul_pos (by omega) hK
    omega
  have e1 : V2 * K ≤ V := by omega
  refine ⟨?_, ?_⟩
  · have : U < (q + 1) * V := by
      rcases h2 with h2 | h2
      · have a1 : (U3 + 1) * K ≤ (q + 1) * V2 * K := Nat.mul_le_mul_right K h2
        have a2 : (q + 1) * (V2 * K) ≤ (q + 1) * V := Nat.mul_le_mul_left _ e1
        rw [Nat.mul_assoc, Nat.succ_mul] at a1
        have b1 : U < U3 * K + K := by omega
        exact Nat.lt_of_lt_of_le b1 (Nat.le_trans a1 a2)
      · rw [h2, Nat.mul_comm]; exact hlt
    exact Nat.le_of_lt_succ ((Nat.div_lt_iff_lt_mul hV0).2 this)
  · rcases Nat.eq_zero_or_pos q with h0 | h0
    · rw [h0]; exact Nat.zero_le _
    · have a1 : q * V2 * K ≤ U3 * K := Nat.mul_le_mul_right K h1
      have a2 : q * V' ≤ q * K := Nat.mul_le_mul_left _ (by omega)
      have a3 : q * K ≤ V2 * K := Nat.mul_le_mul_right K (by omega)
      have a4 : q * V = q * V2 * K + q * V' := by rw [hV, Nat.mul_add, Nat.mul_assoc]
      have a5 : (q - 1) * V + V = q * V := by
        rw [← Nat.succ_mul]; congr 1; omega
      have : (q - 1) * V ≤ U := by omega
      have := (Nat.le_div_iff_mul_le hV0).2 this
      generalize U / V = d at *
      omega
theorem taken_fig {U V q : Nat} (hV : 0 < V) (h1 : U / V ≤ q) (h2 : q ≤ U / V + 1) : (q * V ≤ U → q = U / V ∧ U - q * V = U % V) ∧ (U < q * V → q - 1 = U / V ∧ U + V - q * V = U % V ∧ 0 < q) := by
  have e := Nat.div_add_mod U V
  have hm := Nat.mod_lt U hV
  have k1 := fun h => (Nat.le_div_iff_mul_le hV (x := q) (y := U)).2 h
  rw [Nat.mul_comm] at e
  generalize U % V = m at *
  generalize U / V = d at *
  refine ⟨fun h => ?_, fun h => ?_⟩
  · obtain rfl : q = d := Nat.le_antisymm (k1 h) h1
    exact ⟨rfl, by omega⟩
  · obtain rfl : q = d + 1 := by
      rcases Nat.lt_or_ge d q with h' | h'
      · omega
      · exfalso
        obtain rfl : q = d := Nat.le_antisymm h' h1
        omega
    rw [Nat.add_mul, Nat.one_mul] at h ⊢
    exact ⟨by omega, by omega, by omega⟩
end Go.Proofs.YtdnjdglekifhpaaGreat
namespace Go.Proofs.YtdnjdglekifhpaaGreat
theorem win_set {L : List Nat} {k n x' : Nat} (hk : k + n + 1 ≤ L.length) : ((L.set (k + n) x').drop k).take (n + 1) = (L.drop k).take n ++ [x'] := by
  rw [take_more (by rw [List.length_drop, List.length_set]; omega), lat_drop]
  congr 1
  · rw [List.drop_set, if_neg (by omega), show k + n - k = n by omega, List.take_set_of_le (Nat.le_refl _)]
  · rw [lat_set, if_pos ⟨rfl, by omega⟩]
theorem win_at {L : List Nat} {k n : Nat} (hk : k + n + 1 ≤ L.length) : (L.drop k).take (n + 1) = (L.drop k).take n ++ [lat L (k + n)] := by
  rw [take_more (by rw [List.length_drop]; omega), lat_drop]
theorem lat_of_drop {L L0 : List Nat} {m : Nat} (h : L.drop m = L0.drop m) : lat L m = lat L0 m := by
  have := congrArg (fun l => lat l 0) h
  simpa only [lat_drop, Nat.add_zero] using this
theorem TakenAt.whole {L0 v L : List Nat} {k q c b : Nat} (h : TakenAt L0 v k q v.length L c b) (hk : k + v.length + 1 ≤ L0.length) :
    num ((L.drop k).take v.length) + q * num v + W64 ^ v.length * lat L (k + v.length) = num ((L0.drop k).take (v.length + 1)) + (c + b) * W64 ^ v.length ∧ num ((L.drop k).take v.length) < W64 ^ v.length := by
  obtain ⟨t1, t2, t3, t4, t5, t6, t7⟩ := h
  have hl := lat_of_drop t6
  rw [List.take_length] at t7
  have l2 : ((L0.drop k).take v.length).length = v.length := by rw [List.length_take, List.length_drop]; omega
  refine ⟨?_, ?_⟩
  · rw [win_at hk, num_snoc, l2, hl, t7]
    omega
  · have := num_lt ((L.drop k).take v.length) (fun x hx => t2 x (List.mem_of_mem_drop (List.mem_of_mem_take hx)))
    rwa [show ((L.drop k).take v.length).length = v.length by rw [List.length_take, List.length_drop]; omega] at this
def TakenTo (L0 v : List Nat) (k R : Nat) (L : List Nat) : Prop :=
  L.length = L0.length ∧ Bd L ∧ L.take k = L0.take k ∧ L.drop (k + v.length + 1) = L0.drop (k + v.length + 1) ∧ num ((L.drop k).take (v.length + 1)) = R
theorem TakenAt.end0 {L0 v L : List Nat} {k q c b x x' : Nat} (h : TakenAt L0 v k q v.length L c b) (hk : k + v.length + 1 ≤ L0.length) (hx : x = lat L (k + v.length)) (hx' : x' = (x + W64 - c - b) % W64) (hb : ¬ x < c + b)
    (hV : 0 < num v) (h1 : num ((L0.drop k).take (v.length + 1)) / num v ≤ q) (h2 : q ≤ num ((L0.drop k).take (v.length + 1)) / num v + 1) :
    q = num ((L0.drop k).take (v.length + 1)) / num v ∧ TakenTo L0 v k (num ((L0.drop k).take (v.length + 1)) % num v) (L.set (k + v.length) x') := by
  obtain ⟨w1, w2⟩ := h.whole hk
  obtain ⟨t1, t2, t3, t4, t5, t6, t7⟩ := h
  have hxl : x < W64 := by rw [hx]; exact t2.lat _
  have ex : x' = x - c - b := by
    rw [hx', show x + W64 - c - b = (x - c - b) + W64 by omega, Nat.add_mod_right, Nat.mod_eq_of_lt (by omega)]
  have hxe : x = x' + (c + b) := by omega
  rw [← hx, hxe, Nat.mul_add, Nat.mul_comm (W64 ^ v.length) (c + b)] at w1
  have hle : q * num v ≤ num ((L0.drop k).take (v.length + 1)) := by
    generalize (c + b) * W64 ^ v.length = z at *
    generalize W64 ^ v.length * x' = z2 at *
    omega
  obtain ⟨f1, _⟩ := taken_fig hV h1 h2
  obtain ⟨f2, f3⟩ := f1 hle
  refine ⟨f2, by rw [List.length_set]; exact t1, t2.set _ (by rw [ex]; omega), ?_, ?_, ?_⟩
  · rw [List.take_set_of_le (by omega)]; exact t5
  · rw [List.drop_set_of_lt (by omega)]
    have := congrArg (List.drop 1) t6
    rw [List.drop_drop, List.drop_drop] at this
    exact this
  · rw [← f3, win_set (by omega), num_snoc, show ((L.drop k).take v.length).length = v.length by rw [List.length_take, List.length_drop]; omega]
    generalize (c + b) * W64 ^ v.length = z at *
    generalize W64 ^ v.length * x' = z2 at *
    omega
theorem TakenAt.less {L0 v L : List Nat} {k q c b x : Nat} (h : TakenAt L0 v k q v.length L c b) (hk : k + v.length + 1 ≤ L0.length) (hx : x = lat L (k + v.length)) (hb : x < c + b) : num ((L0.drop k).take (v.length + 1)) < q * num v := by
  obtain ⟨w1, w2⟩ := h.whole hk
  rw [← hx] at w1
  have : (x + 1) * W64 ^ v.length ≤ (c + b) * W64 ^ v.length := Nat.mul_le_mul_right _ hb
  rw [Nat.add_mul, Nat.one_mul, Nat.mul_comm x] at this
  generalize (c + b) * W64 ^ v.length = z at *
  generalize W64 ^ v.length * x = z2 at *
  omega
def AddAt (L1 v : List Nat) (k i : Nat) (L : List Nat) (c : Nat) : Prop :=
  L.length = L1.length ∧ Bd L ∧ c ≤ 1 ∧ L.take k = L1.take k ∧ L.drop (k + i) = L1.drop (k + i) ∧
    num ((L.drop k).take i) + c * W64 ^ i = num ((L1.drop k).take i) + num (v.take i)
theorem AddAt.step {L0 v L : List Nat} {k i c x y s c1 : Nat} (h : AddAt L0 v k i L c) (hi : i < v.length) (hk : k + v.length + 1 ≤ L0.length) (hx : x = lat L (k + i)) (hy : y = lat v i)
    (hs : s = (x + y + c) % W64) (hc : c1 = (x + y + c) / W64) (bv : Bd v) : AddAt L0 v k (i + 1) (L.set (k + i) s) c1 := by
  obtain ⟨t1, t2, t3, t5, t6, t7⟩ := h
  have hxl : lat L0 (k + i) = x := by rw [hx]; exact (lat_of_drop t6).symm
  have hdm := Nat.div_add_mod (x + y + c) W64
  rw [← hs, ← hc] at hdm
  have hsl : s < W64 := by rw [hs]; exact Nat.mod_lt _ W64_pos
  have hx6 : x < W64 := by rw [hx]; exact t2.lat _
  have hy6 : y < W64 := by rw [hy]; exact bv.lat _
  have hc1 : c1 ≤ 1 := by
    have : c1 < 2 := by rw [hc, Nat.div_lt_iff_lt_mul W64_pos]; omega
    omega
  refine ⟨by rw [List.length_set]; exact t1, t2.set _ hsl, hc1, ?_, ?_, ?_⟩
  · rw [List.take_set_of_le (by omega)]; exact t5
  · rw [List.drop_set_of_lt (by omega)]
    have := congrArg (List.drop 1) t6
    rw [List.drop_drop, List.drop_drop] at this
    exact this
  · have e2 : ((L0.drop k).take (i + 1)) = (L0.drop k).take i ++ [x] := by
      rw [take_more (by rw [List.length_drop]; omega), lat_drop, hxl]
    have e1 : ((L.set (k + i) s).drop k).take (i + 1) = (L.drop k).take i ++ [s] := win_set (by omega)
    rw [e1, e2, take_more hi, num_snoc, num_snoc, num_snoc, ← hy, Nat.pow_succ]
    have l1 : ((L.drop k).take i).length = i := by rw [List.length_take, List.length_drop]; omega
    have l2 : ((L0.drop k).take i).length = i := by rw [List.length_take, List.length_drop]; omega
    have l3 : (v.take i).length = i := by rw [List.length_take]; omega
    rw [l1, l2, l3]
    generalize W64 ^ i = K at *
    generalize num ((L.drop k).take i) = P at *
    generalize num ((L0.drop k).take i) = U at *
    generalize num (v.take i) = V at *
    have d2 := congrArg (fun z => K * z) hdm
    simp only [Nat.mul_add] at d2
    have e3 : c1 * (K * W64) = K * (W64 * c1) := by rw [Nat.mul_comm c1, Nat.mul_assoc]
    rw [e3]
    rw [Nat.mul_comm c K] at t7
    omega
theorem TakenAt.end1 {L0 v L1 L2 : List Nat} {k q c b x x' c2 : Nat} (h : TakenAt L0 v k q v.length L1 c b) (hk : k + v.length + 1 ≤ L0.length) (hx : x = lat L1 (k + v.length)) (hx' : x' = (x + W64 - c - b) % W64) (hb : x < c + b)
    (hV : 0 < num v) (bv : Bd v) (h1 : num ((L0.drop k).take (v.length + 1)) / num v ≤ q) (h2 : q ≤ num ((L0.drop k).take (v.length + 1)) / num v + 1)
    (ha : AddAt (L1.set (k + v.length) x') v k v.length L2 c2) :
    0 < q ∧ q - 1 = num ((L0.drop k).take (v.length + 1)) / num v ∧ TakenTo L0 v k (num ((L0.drop k).take (v.length + 1)) % num v) (L2.set (k + v.length) ((lat L2 (k + v.length) + c2) % W64)) := by
  obtain ⟨_, f1⟩ := taken_fig hV h1 h2
  obtain ⟨f2, f3, f4⟩ := f1 (h.less hk hx hb)
  obtain ⟨w1, w2⟩ := h.whole hk
  have hlt := h.less hk hx hb
  obtain ⟨t1, t2, t3, t4, t5, t6, t7⟩ := h
  obtain ⟨a1, a2, a3, a4, a5, a6⟩ := ha
  rw [List.length_set] at a1
  have hm := Nat.mod_lt (num ((L0.drop k).take (v.length + 1))) hV
  have hvK : num v < W64 ^ v.length := num_lt v bv
  rw [List.take_length] at a6
  have hxl : lat L2 (k + v.length) = x' := by rw [lat_of_drop a5, lat_set, if_pos ⟨rfl, by omega⟩]
  have e0 : ((L1.set (k + v.length) x').drop k).take v.length = (L1.drop k).take v.length := by
    rw [List.drop_set, if_neg (by omega), show k + v.length - k = v.length by omega, List.take_set_of_le (Nat.le_refl _)]
  rw [e0] at a6
  have hD : num ((L2.drop k).take v.length) < W64 ^ v.length := by
    have := num_lt ((L2.drop k).take v.length) (fun x hx => a2 x (List.mem_of_mem_drop (List.mem_of_mem_take hx)))
    rwa [show ((L2.drop k).take v.length).length = v.length by rw [List.length_take, List.length_drop]; omega] at this
  rw [← hx] at w1
  obtain ⟨z, hz⟩ : ∃ z, c + b = x + z := ⟨c + b - x, by omega⟩
  have hz1 : 1 ≤ z := by omega
  rw [hz, Nat.add_mul, Nat.mul_comm x] at w1
  have hxw : x < W64 := by rw [hx]; exact t2.lat _
  refine ⟨f4, f2, ?_⟩
  rw [← f3]
  rw [← f3] at hm
  generalize hR : num ((L0.drop k).take (v.length + 1)) + num v - q * num v = R at *
  have hcz : c2 = 1 ∧ z = 1 ∧ R = num ((L2.drop k).take v.length) := by
    have hz2 : z ≤ 1 ∨ 2 * W64 ^ v.length ≤ z * W64 ^ v.length := by
      rcases Nat.lt_or_ge z 2 with hh | hh
      · left; omega
      · right; exact Nat.mul_le_mul_right _ hh
    have hz3 : W64 ^ v.length ≤ z * W64 ^ v.length := by have := Nat.mul_le_mul_right (W64 ^ v.length) hz1; omega
    have hc : c2 = 0 ∨ c2 = 1 := by omega
    have hz4 : z = 1 → z * W64 ^ v.length = W64 ^ v.length := fun h => by rw [h, Nat.one_mul]
    have hfit : q * num v ≤ num ((L0.drop k).take (v.length + 1)) + num v := by
      have e := Nat.div_add_mod (num ((L0.drop k).take (v.length + 1))) (num v)
      have := Nat.mul_le_mul_right (num v) h2
      rw [Nat.add_mul, Nat.one_mul, Nat.mul_comm (_ / _)] at this
      omega
    clear h1 h2 f1 f2 f3 e0 hx' a1 t1 a5 a4 t5 t6 t7
    rcases hc with hc | hc <;> subst hc
    · rw [Nat.zero_mul] at a6
      exfalso
      generalize z * W64 ^ v.length = zK at *
      generalize W64 ^ v.length * x = xK at *
      generalize W64 ^ v.length = K at *
      omega
    · rw [Nat.one_mul] at a6
      rcases hz2 with hh | hh
      · have hz5 : z = 1 := by omega
        have := hz4 hz5
        refine ⟨rfl, hz5, ?_⟩
        generalize z * W64 ^ v.length = zK at *
        generalize W64 ^ v.length * x = xK at *
        generalize W64 ^ v.length = K at *
        omega
      · exfalso
        generalize z * W64 ^ v.length = zK at *
        generalize W64 ^ v.length * x = xK at *
        generalize W64 ^ v.length = K at *
        omega
  obtain ⟨rfl, rfl, hRD⟩ := hcz
  have ex : x' + 1 = W64 := by
    rw [hx', show x + W64 - c - b = W64 - 1 by omega, Nat.mod_eq_of_lt (by unfold W64; omega)]
    unfold W64; omega
  have e9 : (lat L2 (k + v.length) + 1) % W64 = 0 := by rw [hxl, ex, Nat.mod_self]
  rw [e9]
  refine ⟨by rw [List.length_set]; omega, a2.set _ W64_pos, ?_, ?_, ?_⟩
  · rw [List.take_set_of_le (by omega), a4, List.take_set_of_le (by omega)]; exact t5
  · rw [List.drop_set_of_lt (by omega)]
    have e1 := congrArg (List.drop 1) a5
    rw [List.drop_drop, List.drop_drop, List.drop_set_of_lt (by omega)] at e1
    have e2 := congrArg (List.drop 1) t6
    rw [List.drop_drop, List.drop_drop] at e2
    exact e1.trans e2
  · rw [win_set (by omega), num_snoc, Nat.mul_zero, Nat.add_zero]; exact hRD.symm
end Go.Proofs.YtdnjdglekifhpaaGreat
namespace Go.Proofs.YtdnjdglekifhpaaGreat
theorem split3 {w : List Nat} {k : Nat} (h : w.length = k + 3) : w = w.take k ++ [lat w k, lat w (k + 1), lat w (k + 2)] := by
  have hl : (w.drop k).length = 3 := by rw [List.length_drop]; omega
  have hd : w.drop k = [lat w k, lat w (k + 1), lat w (k + 2)] := by
    apply List.ext_getElem?
    intro i
    rcases Nat.lt_or_ge i 3 with hi | hi
    · rw [List.getElem?_drop]
      have hb : k + i < w.length := by omega
      rw [List.getElem?_eq_getElem hb]
      match i, hi with
      | 0, _ => have hb0 : k < w.length := by omega
                simp [lat, hb0]
      | 1, _ => simp [lat, hb]
      | 2, _ => simp [lat, hb]
    · rw [List.getElem?_eq_none (by omega), List.getElem?_eq_none (by simpa using hi)]
  conv => lhs; rw [← List.take_append_drop k w, hd]
theorem split2 {v : List Nat} {k : Nat} (h : v.length = k + 2) : v = v.take k ++ [lat v k, lat v (k + 1)] := by
  have hd : v.drop k = [lat v k, lat v (k + 1)] := by
    apply List.ext_getElem?
    intro i
    rcases Nat.lt_or_ge i 2 with hi | hi
    · rw [List.getElem?_drop]
      have hb : k + i < v.length := by omega
      rw [List.getElem?_eq_getElem hb]
      match i, hi with
      | 0, _ => have hb0 : k < v.length := by omega
                simp [lat, hb0]
      | 1, _ => simp [lat, hb]
    · rw [List.getElem?_eq_none (by rw [List.length_drop]; omega), List.getElem?_eq_none (by simpa using hi)]
  conv => lhs; rw [← List.take_append_drop k v, hd]
theorem guess_lists {w v : List Nat} {k q : Nat} (hw : w.length = k + 3) (hv : v.length = k + 2) (bw : Bd w) (bv : Bd v) (hp : 0 < lat v (k + 1)) (hlt : num w < num v * W64) (hq : q < W64)
    (h1 : q * (lat v (k + 1) * W64 + lat v k) ≤ (lat w (k + 2) * W64 + lat w (k + 1)) * W64 + lat w k)
    (h2 : (lat w (k + 2) * W64 + lat w (k + 1)) * W64 + lat w k < (q + 1) * (lat v (k + 1) * W64 + lat v k) ∨ q + 1 = W64) : num w / num v ≤ q ∧ q ≤ num w / num v + 1 := by
  have eU : num w = ((lat w (k + 2) * W64 + lat w (k + 1)) * W64 + lat w k) * W64 ^ k + num (w.take k) := by
    conv => lhs; rw [split3 hw, num_append, List.length_take, Nat.min_eq_left (by omega)]
    simp only [num]
    generalize num (w.take k) = t
    generalize W64 ^ k = K
    rw [Nat.mul_comm _ K, Nat.add_comm]
    congr 2
    simp only [Nat.mul_zero, Nat.add_zero, Nat.mul_add, Nat.add_mul]
    rw [Nat.mul_comm (lat w (k + 2) * W64) W64, Nat.mul_comm (lat w (k + 2)) W64, Nat.mul_comm (lat w (k + 1)) W64]
    omega
  have eV : num v = (lat v (k + 1) * W64 + lat v k) * W64 ^ k + num (v.take k) := by
    conv => lhs; rw [split2 hv, num_append, List.length_take, Nat.min_eq_left (by omega)]
    simp only [num]
    generalize num (v.take k) = t
    generalize W64 ^ k = K
    rw [Nat.mul_comm _ K, Nat.add_comm]
    congr 2
    simp only [Nat.mul_zero, Nat.add_zero]
    rw [Nat.mul_comm (lat v (k + 1)) W64]
    omega
  have lU : num (w.take k) < W64 ^ k := by
    have := num_lt (w.take k) (fun x hx => bw x (List.mem_of_mem_take hx))
    rwa [List.length_take, Nat.min_eq_left (by omega)] at this
  have lV : num (v.take k) < W64 ^ k := by
    have := num_lt (v.take k) (fun x hx => bv x (List.mem_of_mem_take hx))
    rwa [List.length_take, Nat.min_eq_left (by omega)] at this
  have hB : W64 ≤ lat v (k + 1) * W64 + lat v k := by
    have : 1 * W64 ≤ lat v (k + 1) * W64 := Nat.mul_le_mul_right W64 hp
    omega
  exact guess_fig eU lU eV lV hB hlt hq h1 h2
end Go.Proofs.YtdnjdglekifhpaaGreat
namespace Go.Proofs.YtdnjdglekifhpaaGreat
theorem two64 {s : Nat} (h : s ≤ 64) : 2 ^ s * 2 ^ (64 - s) = W64 := by
  rw [← Nat.pow_add, show s + (64 - s) = 64 by omega]; rfl
theorem snocI {α : Type} {p : List α → Prop} (h0 : p []) (h1 : ∀ l x, p l → p (l ++ [x])) : ∀ l, p l := by
  have key : ∀ n (l : List α), l.length = n → p l := by
    intro n
    induction n with
    | zero => intro l hl; rw [List.eq_nil_of_length_eq_zero hl]; exact h0
    | succ n ih =>
      intro l hl
      have hne : l ≠ [] := by rintro rfl; simp at hl
      rw [← List.dropLast_concat_getLast hne]
      exact h1 _ _ (ih _ (by simp [hl]))
  exact fun l => key _ l rfl
theorem shl_digit {s x : Nat} (hs : s ≤ 64) (hx : x < W64) : x * 2 ^ s = W64 * (x / 2 ^ (64 - s)) + x * 2 ^ s % W64 ∧ x / 2 ^ (64 - s) < 2 ^ s ∧ (∃ z, x * 2 ^ s % W64 = z * 2 ^ s) ∧ ∀ c, c < 2 ^ s → x * 2 ^ s % W64 + c < W64 := by
  have e := two64 hs
  have hB : 0 < 2 ^ s := Nat.pow_pos (by omega)
  have hD : 0 < 2 ^ (64 - s) := Nat.pow_pos (by omega)
  generalize 2 ^ s = B at *
  generalize 2 ^ (64 - s) = D at *
  have e1 : x * B % W64 = (x % D) * B := by rw [← e, Nat.mul_comm B D, Nat.mul_mod_mul_right]
  have e2 : x * B / W64 = x / D := by rw [← e, Nat.mul_comm B D, Nat.mul_div_mul_right _ _ hB]
  refine ⟨?_, ?_, ⟨_, e1⟩, fun c hc => ?_⟩
  · rw [← e2]; exact (Nat.div_add_mod _ _).symm
  · rw [Nat.div_lt_iff_lt_mul hD, e]; exact hx
  · rw [e1]
    have h1 := Nat.mod_lt x hD
    have h2 : (x % D + 1) * B ≤ D * B := Nat.mul_le_mul_right B h1
    rw [Nat.add_mul, Nat.one_mul, Nat.mul_comm D B, e] at h2
    omega
def shlF (s : Nat) (p : List Nat × Nat) (x : Nat) : List Nat × Nat := (p.1 ++ [x * 2 ^ s % W64 + p.2], x / 2 ^ (64 - s))
def shlS (s m : Nat) (l : List Nat) : List Nat × Nat := l.foldl (shlF s) (zeros m, 0)
theorem shlS_snoc (s m : Nat) (l : List Nat) (x : Nat) : shlS s m (l ++ [x]) = shlF s (shlS s m l) x := by unfold shlS; rw [List.foldl_append]; rfl
theorem shlS_ok {s m : Nat} (hs : s ≤ 64) (l : List Nat) : Bd l → ((shlS s m l).1.length = m + l.length ∧ (shlS s m l).2 < 2 ^ s ∧ Bd (shlS s m l).1 ∧ num (shlS s m l).1 + W64 ^ (m + l.length) * (shlS s m l).2 = W64 ^ m * (num l * 2 ^ s)) := by
  refine snocI (p := fun l => Bd l → ((shlS s m l).1.length = m + l.length ∧ (shlS s m l).2 < 2 ^ s ∧ Bd (shlS s m l).1 ∧ num (shlS s m l).1 + W64 ^ (m + l.length) * (shlS s m l).2 = W64 ^ m * (num l * 2 ^ s))) ?_ ?_ l
  · intro _
    exact ⟨by simp [shlS, zeros], Nat.pow_pos (by omega), Bd.zeros m, by simp [shlS, num_zeros, num]⟩
  · intro l x ih hb
    have hx : x < W64 := hb x (by simp)
    obtain ⟨i1, i2, i3, i4⟩ := ih (fun y hy => hb y (by simp [hy]))
    obtain ⟨d1, d2, _, d4⟩ := shl_digit hs hx
    rw [shlS_snoc]
    generalize shlS s m l = p at *
    refine ⟨by simp [shlF, i1]; omega, d2, i3.snoc (d4 _ i2), ?_⟩
    show num (p.1 ++ [x * 2 ^ s % W64 + p.2]) + W64 ^ (m + (l ++ [x]).length) * (x / 2 ^ (64 - s)) = _
    rw [num_append, num_single, i1, List.length_append, List.length_singleton, num_append, num_single, ← Nat.add_assoc, Nat.pow_succ]
    have e1 : W64 ^ m * ((num l + W64 ^ l.length * x) * 2 ^ s) = W64 ^ m * (num l * 2 ^ s) + W64 ^ (m + l.length) * (x * 2 ^ s) := by
      rw [Nat.add_mul, Nat.mul_add, Nat.pow_add, Nat.mul_assoc (W64 ^ l.length), Nat.mul_assoc (W64 ^ m)]
    rw [e1, ← i4]
    conv => rhs; rw [d1]
    rw [Nat.mul_add, Nat.mul_add, Nat.mul_assoc (W64 ^ (m + l.length)) W64]
    omega
theorem shl_all {l : List Nat} (hl : Bd l) (n : Nat) : num ((shlS (n % 64) (n / 64) l).1 ++ [(shlS (n % 64) (n / 64) l).2]) = num l * 2 ^ n := by
  obtain ⟨i1, _, _, i4⟩ := shlS_ok (s := n % 64) (m := n / 64) (by omega) l hl
  rw [num_append, num_single, i1, i4, W64_pow, Nat.mul_comm, Nat.mul_assoc, ← Nat.pow_add, show n % 64 + 64 * (n / 64) = n by omega]
def shrL (s : Nat) : List Nat → List Nat
  | [] => []
  | x :: l => (x / 2 ^ s + lat l 0 * 2 ^ (64 - s) % W64) :: shrL s l
theorem shrL_len (s : Nat) : ∀ l : List Nat, (shrL s l).length = l.length
  | [] => rfl
  | _ :: l => by unfold shrL; rw [List.length_cons, List.length_cons, shrL_len s l]
theorem shr_digit {s x : Nat} (hs : s ≤ 64) (hx : x < W64) : x / 2 ^ s < 2 ^ (64 - s) ∧ ∀ z, z < 2 ^ s → x / 2 ^ s + z * 2 ^ (64 - s) < W64 := by
  have e := two64 hs
  have hB : 0 < 2 ^ s := Nat.pow_pos (by omega)
  generalize 2 ^ s = B at *
  generalize 2 ^ (64 - s) = D at *
  have h1 : x / B < D := by rw [Nat.div_lt_iff_lt_mul hB, Nat.mul_comm, e]; exact hx
  refine ⟨h1, fun z hz => ?_⟩
  have h2 : (z + 1) * D ≤ B * D := Nat.mul_le_mul_right D hz
  rw [Nat.add_mul, Nat.one_mul, e] at h2
  omega
theorem shr_carry {s : Nat} (hs : s ≤ 64) (y : Nat) : y * 2 ^ (64 - s) % W64 = (y % 2 ^ s) * 2 ^ (64 - s) := by
  rw [← two64 hs, Nat.mul_mod_mul_right]
theorem shrL_bd {s : Nat} (hs : s ≤ 64) : ∀ {l : List Nat}, Bd l → Bd (shrL s l)
  | [], _ => Bd.nil
  | x :: l, h => by
    refine Bd.cons ?_ (shrL_bd hs h.tail)
    rw [shr_carry hs]
    exact (shr_digit hs h.head).2 _ (Nat.mod_lt _ (Nat.pow_pos (by omega)))
theorem shrL_num {s : Nat} (hs : s ≤ 64) : ∀ l : List Nat, num (shrL s l) = num l / 2 ^ s
  | [] => by simp [shrL, num]
  | x :: l => by
    have ih := shrL_num hs l
    show x / 2 ^ s + lat l 0 * 2 ^ (64 - s) % W64 + W64 * num (shrL s l) = (x + W64 * num l) / 2 ^ s
    rw [ih, shr_carry hs]
    have e := two64 hs
    have hB : 0 < 2 ^ s := Nat.pow_pos (by omega)
    have hm : lat l 0 % 2 ^ s = num l % 2 ^ s := by
      rcases l with _ | ⟨y, r⟩
      · simp [lat, num]
      · show y % 2 ^ s = (y + W64 * num r) % 2 ^ s
        rw [← e, Nat.mul_assoc, Nat.add_mul_mod_self_left]
    rw [hm]
    generalize 2 ^ s = B at *
    generalize 2 ^ (64 - s) = D at *
    generalize num l = N at *
    have h1 : (x + W64 * N) / B = x / B + D * N := by rw [← e, Nat.mul_assoc, Nat.add_mul_div_left _ _ hB]
    rw [h1]
    have h2 := Nat.div_add_mod N B
    generalize N / B = q at *
    generalize N % B = r at *
    rw [← h2, ← e, Nat.mul_add, ← Nat.mul_assoc, Nat.mul_comm D B, Nat.mul_comm r D]
    omega
theorem shrL_at (s : Nat) (l : List Nat) (i : Nat) (h : i < l.length) : shrL s (l.drop i) = (lat l i / 2 ^ s + lat (l.drop (i + 1)) 0 * 2 ^ (64 - s) % W64) :: shrL s (l.drop (i + 1)) := by
  rw [drop_lat l i h]; rfl
theorem num_drop_div (l : List Nat) (hb : Bd l) (k : Nat) : num (l.drop k) = num l / W64 ^ k := by
  rcases Nat.lt_or_ge k l.length with h | h
  · have e := num_split l k (Nat.le_of_lt h)
    have hl : num (l.take k) < W64 ^ k := by
      have := num_lt (l.take k) (hb.take k)
      rwa [List.length_take, Nat.min_eq_left (Nat.le_of_lt h)] at this
    rw [e, Nat.add_mul_div_left _ _ (Nat.pow_pos W64_pos), Nat.div_eq_of_lt hl, Nat.zero_add]
  · rw [List.drop_eq_nil_of_le h]
    have h1 := num_lt l hb
    have h2 : W64 ^ l.length ≤ W64 ^ k := Nat.pow_le_pow_right W64_pos h
    rw [Nat.div_eq_of_lt (Nat.lt_of_lt_of_le h1 h2)]
    rfl
theorem shr_all {l : List Nat} (hb : Bd l) (n : Nat) : num (shrL (n % 64) (l.drop (n / 64))) = num l / 2 ^ n := by
  rw [shrL_num (by omega), num_drop_div l hb, W64_pow, Nat.div_div_eq_div_mul, ← Nat.pow_add, show 64 * (n / 64) + n % 64 = n by omega]
theorem shr_none {l : List Nat} (hb : Bd l) {n : Nat} (h : l.length ≤ n / 64) : num l / 2 ^ n = 0 := by
  rw [← shr_all hb, List.drop_eq_nil_of_le h]; rfl
end Go.Proofs.YtdnjdglekifhpaaGreat
namespace Go.Proofs.YtdnjdglekifhpaaGreat
def DivAt (U : Nat) (v : List Nat) (m k : Nat) (Q L : List Nat) : Prop :=
  Q.length = m ∧ Bd Q ∧ L.length = m + v.length ∧ Bd L ∧ num (L.drop k) < num v ∧ (∀ j, j < k → lat Q j = 0) ∧ num Q * num v + num L = U
theorem DivAt.start {U m : Nat} {v L : List Nat} (hL : L.length = m + v.length) (bL : Bd L) (hU : num L = U) (h : U < num v * W64 ^ m) : DivAt U v m m (zeros m) L := by
  refine ⟨zeros_len m, Bd.zeros m, hL, bL, ?_, fun j _ => lat_zeros m j, by rw [num_zeros, Nat.zero_mul, Nat.zero_add, hU]⟩
  rw [num_drop_div L bL m, hU, Nat.div_lt_iff_lt_mul (Nat.pow_pos W64_pos)]
  exact h
theorem DivAt.win {U m k : Nat} {v Q L : List Nat} (h : DivAt U v m (k + 1) Q L) (hk : k < m) (bv : Bd v) :
    num ((L.drop k).take (v.length + 1)) = num (L.drop k) ∧ num ((L.drop k).take (v.length + 1)) < num v * W64 := by
  obtain ⟨q1, q2, l1, l2, l3, z, e⟩ := h
  have hd : L.drop k = lat L k :: L.drop (k + 1) := drop_lat L k (by omega)
  have hvK := num_lt v bv
  have hx := l2.lat k
  have b1 : Bd (L.drop (k + 1)) := fun x hx => l2 x (List.mem_of_mem_drop hx)
  have ht : num ((L.drop (k + 1)).take v.length) = num (L.drop (k + 1)) := by
    rcases Nat.lt_or_ge v.length (L.drop (k + 1)).length with hl | hl
    · have e2 := num_split (L.drop (k + 1)) v.length (Nat.le_of_lt hl)
      rcases Nat.eq_zero_or_pos (num ((L.drop (k + 1)).drop v.length)) with h0 | h0
      · rw [h0, Nat.mul_zero, Nat.add_zero] at e2; exact e2.symm
      · have : W64 ^ v.length * 1 ≤ W64 ^ v.length * num ((L.drop (k + 1)).drop v.length) := Nat.mul_le_mul_left _ h0
        omega
    · rw [List.take_of_length_le hl]
  have e3 : num ((L.drop k).take (v.length + 1)) = num (L.drop k) := by
    rw [hd, List.take_succ_cons]
    show lat L k + W64 * num _ = lat L k + W64 * num _
    rw [ht]
  refine ⟨e3, ?_⟩
  rw [e3, hd]
  show lat L k + W64 * num (L.drop (k + 1)) < _
  have h9 : W64 * (num (L.drop (k + 1)) + 1) ≤ W64 * num v := Nat.mul_le_mul_left _ l3
  rw [Nat.mul_add, Nat.mul_one] at h9
  rw [Nat.mul_comm (num v)]
  omega
theorem DivAt.step {U m k : Nat} {v Q L L' : List Nat} (h : DivAt U v m (k + 1) Q L) (hk : k < m) (bv : Bd v)
    (ht : TakenTo L v k (num ((L.drop k).take (v.length + 1)) % num v) L') :
    DivAt U v m k (Q.set k (num ((L.drop k).take (v.length + 1)) / num v)) L' := by
  obtain ⟨w1, w2⟩ := h.win hk bv
  obtain ⟨q1, q2, l1, l2, l3, z, e⟩ := h
  obtain ⟨t1, t2, t3, t4, t5⟩ := ht
  have hV : 0 < num v := by
    rcases Nat.eq_zero_or_pos (num v) with h0 | h0
    · rw [h0] at l3; omega
    · exact h0
  have hq : num ((L.drop k).take (v.length + 1)) / num v < W64 := by rw [Nat.div_lt_iff_lt_mul hV, Nat.mul_comm]; exact w2
  have hm := Nat.mod_lt (num ((L.drop k).take (v.length + 1))) hV
  have hdm := Nat.div_add_mod (num ((L.drop k).take (v.length + 1))) (num v)
  have hup : num (L.drop (k + v.length + 1)) = 0 := by
    have e2 := num_split (L.drop k) (v.length + 1) (by rw [List.length_drop]; omega)
    rw [List.drop_drop, ← Nat.add_assoc] at e2
    rw [w1] at e2
    have : W64 ^ (v.length + 1) * num (L.drop (k + v.length + 1)) = 0 := by omega
    rcases Nat.mul_eq_zero.1 this with h0 | h0
    · exact absurd h0 (Nat.ne_of_gt (Nat.pow_pos W64_pos))
    · exact h0
  have hd' : num (L'.drop k) = num ((L.drop k).take (v.length + 1)) % num v := by
    have e2 := num_split (L'.drop k) (v.length + 1) (by rw [List.length_drop]; omega)
    rw [List.drop_drop, ← Nat.add_assoc, t4, hup, Nat.mul_zero, Nat.add_zero, t5] at e2
    exact e2
  refine ⟨by rw [List.length_set]; exact q1, q2.set _ hq, by rw [t1]; exact l1, t2, by rw [hd']; exact hm, fun j hj => ?_, ?_⟩
  · rw [lat_set, if_neg (by omega)]; exact z j (by omega)
  · have s1 := num_set Q k (num ((L.drop k).take (v.length + 1)) / num v) (by omega)
    rw [z k (by omega), Nat.mul_zero, Nat.add_zero] at s1
    have s2 := num_split L k (by omega)
    have s3 := num_split L' k (by omega)
    rw [t3, hd'] at s3
    rw [← w1] at s2
    rw [s1, s3, ← e, s2, Nat.add_mul]
    generalize num ((L.drop k).take (v.length + 1)) = W at *
    generalize W / num v = q at *
    generalize W % num v = r at *
    rw [← hdm, Nat.mul_add, Nat.mul_assoc, Nat.mul_comm q]
    omega
theorem DivAt.done {U m : Nat} {v Q L : List Nat} (h : DivAt U v m 0 Q L) : num Q = U / num v ∧ num L = U % num v := by
  obtain ⟨q1, q2, l1, l2, l3, z, e⟩ := h
  rw [List.drop_zero] at l3
  have hV : 0 < num v := by omega
  rw [← e, Nat.add_comm, Nat.mul_comm]
  refine ⟨?_, ?_⟩
  · rw [Nat.add_mul_div_left _ _ hV, Nat.div_eq_of_lt l3, Nat.zero_add]
  · rw [Nat.add_mul_mod_self_left, Nat.mod_eq_of_lt l3]
theorem lat_win {L : List Nat} {k n i : Nat} (h : i < n) : lat ((L.drop k).take n) i = lat L (k + i) := by
  unfold lat
  rw [List.getElem?_take, if_pos h, List.getElem?_drop]
theorem win_top {w v : List Nat} {j : Nat} (hw : w.length = j + 3) (hv : v.length = j + 2) (bv : Bd v) (h : num w < num v * W64) : lat w (j + 2) ≤ lat v (j + 1) := by
  have e1 := num_take_succ w (j + 2)
  rw [num_take_ge w (j + 2 + 1) (by omega)] at e1
  have e2 := num_take_succ v (j + 1)
  rw [num_take_ge v (j + 1 + 1) (by omega)] at e2
  have lv : num (v.take (j + 1)) < W64 ^ (j + 1) := by
    have := num_lt (v.take (j + 1)) (bv.take _)
    rwa [List.length_take, Nat.min_eq_left (by omega)] at this
  rcases Nat.lt_or_ge (lat v (j + 1)) (lat w (j + 2)) with hh | hh
  · exfalso
    have h1 : W64 ^ (j + 2) * (lat v (j + 1) + 1) ≤ W64 ^ (j + 2) * lat w (j + 2) := Nat.mul_le_mul_left _ hh
    rw [Nat.mul_add, Nat.mul_one, Nat.pow_succ W64 (j + 1)] at h1
    have h2 : num v + 1 ≤ W64 ^ (j + 1) * lat v (j + 1) + W64 ^ (j + 1) := by omega
    have h3 := Nat.mul_le_mul_right W64 h2
    rw [Nat.add_mul, Nat.one_mul, Nat.add_mul, Nat.mul_right_comm] at h3
    rw [Nat.pow_succ W64 (j + 1)] at e1
    have hp := W64_pos
    omega
  · exact hh
theorem norm_len {b n : Nat} (hn : (limbs b).length = n) (h0 : 0 < n) : (limbs (b * 2 ^ (64 - bl (lat (limbs b) (n - 1))))).length = n ∧ 1 ≤ bl (lat (limbs b) (n - 1)) ∧ bl (lat (limbs b) (n - 1)) ≤ 64 ∧ lat (limbs b) (n - 1) < W64 := by
  have hne : limbs b ≠ [] := by intro h; rw [h] at hn; simp at hn; omega
  have hbl := bl_num (limbs_bd b) (limbs_rt b) hne
  rw [num_limbs, hn] at hbl
  have ht : lat (limbs b) (n - 1) ≠ 0 := by
    rcases limbs_rt b with h | h
    · exact absurd h hne
    · rwa [hn] at h
  have htW := (limbs_bd b).lat (n - 1)
  generalize lat (limbs b) (n - 1) = t at *
  have h1 : bl t ≤ 64 := bl_le_iff.2 (show t < 2 ^ 64 from htW)
  have h2 : 1 ≤ bl t := by rw [bl_pos ht]; omega
  refine ⟨?_, h2, h1, htW⟩
  have hb := lt_bl b
  rw [hbl] at hb
  have hlt : b * 2 ^ (64 - bl t) < W64 ^ n := by
    have h3 : b * 2 ^ (64 - bl t) < 2 ^ (64 * (n - 1) + bl t) * 2 ^ (64 - bl t) := Nat.mul_lt_mul_of_pos_right hb (Nat.pow_pos (by omega))
    rw [← Nat.pow_add, show 64 * (n - 1) + bl t + (64 - bl t) = 64 * n by omega] at h3
    rw [W64_pow]; exact h3
  have l1 := limbs_len_le hlt
  have l2 : (limbs b).length ≤ (limbs (b * 2 ^ (64 - bl t))).length := limbs_len_mono (Nat.le_mul_of_pos_right _ (Nat.pow_pos (by omega)))
  omega
theorem up_len {a s : Nat} (hs : s < 64) : (limbs (a * 2 ^ s)).length ≤ (limbs a).length + 1 := by
  apply limbs_len_le
  have h1 : a < W64 ^ (limbs a).length := lt_of_limbs_len (Nat.le_refl _)
  have h2 : 2 ^ s ≤ W64 := by rw [← two64 (s := s) (by omega)]; exact Nat.le_mul_of_pos_right _ (Nat.pow_pos (by omega))
  have hp := W64_pos
  rw [Nat.pow_succ]
  exact Nat.lt_of_lt_of_le (Nat.mul_lt_mul_of_pos_right h1 (Nat.pow_pos (by omega))) (Nat.mul_le_mul_left _ h2)
theorem up_below {a b s n m : Nat} (hn : (limbs b).length = n) (h0 : 0 < n) (hm : (limbs a).length + 1 = m + n) : a * 2 ^ s < b * 2 ^ s * W64 ^ m := by
  have h1 : a < W64 ^ (limbs a).length := lt_of_limbs_len (Nat.le_refl _)
  have h2 : W64 ^ (n - 1) ≤ b := le_of_limbs_len (by omega)
  have h3 : W64 ^ (n - 1) * W64 ^ m ≤ b * W64 ^ m := Nat.mul_le_mul_right _ h2
  rw [← Nat.pow_add, show n - 1 + m = (limbs a).length by omega] at h3
  rw [Nat.mul_right_comm]
  exact Nat.mul_lt_mul_of_pos_right (Nat.lt_of_lt_of_le h1 h3) (Nat.pow_pos (by omega))
theorem num_app_zeros (l : List Nat) (j : Nat) : num (l ++ zeros j) = num l := by rw [num_append, num_zeros, Nat.mul_zero, Nat.add_zero]
theorem Bd.app {a b : List Nat} (ha : Bd a) (hb : Bd b) : Bd (a ++ b) := fun x hx => by
  rcases List.mem_append.1 hx with h | h
  · exact ha x h
  · exact hb x h
theorem up_div (a b s : Nat) : a * 2 ^ s / (b * 2 ^ s) = a / b ∧ a * 2 ^ s % (b * 2 ^ s) = (a % b) * 2 ^ s ∧ (a % b) * 2 ^ s / 2 ^ s = a % b :=
  ⟨Nat.mul_div_mul_right _ _ (Nat.pow_pos (by omega)), Nat.mul_mod_mul_right _ _ _, Nat.mul_div_cancel _ (Nat.pow_pos (by omega))⟩
end Go.Proofs.YtdnjdglekifhpaaGreat
