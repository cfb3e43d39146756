/- book.Book and book.Gap, every kind. -/
import Derived.Test.YtochabikpaoalaaGreatBook4
namespace Go.Proofs.YtochabikpaoalaaGreat
open Go.RowKit Go.Shelf
attribute [local go_sem] Oper.semAt_some

def bkz (k : Int) : List Int := if k = 0 then bk 0 else if k = 1 then bk 1 else if k = 2 then bk 2 else if k = 3 then bk 3 else []
def bke (k : Int) : Int := if 0 ≤ k ∧ k ≤ 3 then 0 else 1
theorem book_any (k : Int) (w : World) :
    Calls Tryz.prog 45 #[.int .i64 k] w fun e w' => ∃ v, e = .returned (.tuple #[v, .int .i64 (bke k)]) ∧ IsI w' v (bkz k) ∧ Below w.heap.size w w' := by
  rcases kind_cases k with rfl | rfl | rfl | rfl | ⟨h0, h1, h2, h3⟩
  · exact book_0 w
  · exact book_1 w
  · exact book_2 w
  · exact book_3 w
  · refine (book_none k w h0 h1 h2 h3).mono ?_
    rintro e w' ⟨rfl, hb⟩
    simp only [beq_eq_false_iff_ne] at h0 h1 h2 h3
    refine ⟨_, by rw [bke, if_neg (by omega)], ?_, hb⟩
    rw [bkz, if_neg h0, if_neg h1, if_neg h2, if_neg h3]
    exact IsI.nil _
def inb (l : List Int) : Bool := l.all fun x => decide (-2560000000 ≤ x ∧ x ≤ 2560000000)
theorem bk_inb : ∀ k < 4, inb (bk k) = true := by decide +kernel
theorem bkz_in (k : Int) (h : 0 ≤ k ∧ k ≤ 3) : (bkz k).length = 256 ∧ inb (bkz k) = true := by
  obtain rfl | rfl | rfl | rfl : k = 0 ∨ k = 1 ∨ k = 2 ∨ k = 3 := by omega
  · exact ⟨bk_len 0 (by omega), bk_inb 0 (by omega)⟩
  · exact ⟨bk_len 1 (by omega), bk_inb 1 (by omega)⟩
  · exact ⟨bk_len 2 (by omega), bk_inb 2 (by omega)⟩
  · exact ⟨bk_len 3 (by omega), bk_inb 3 (by omega)⟩
theorem inb_at {l : List Int} (h : inb l = true) (j : Nat) : -2560000000 ≤ iat l j ∧ iat l j ≤ 2560000000 := by
  by_cases hj : j < l.length
  · have := List.all_eq_true.1 h _ (iat_mem hj)
    simpa using this
  · unfold iat; rw [List.getElem?_eq_none (by omega)]; simp
def gapTo (l : List Int) : Nat → Int
  | 0 => 0
  | j + 1 => max (gapTo l j) (iat l (j + 1) - iat l j)
theorem gapTo_in {l : List Int} (h : inb l = true) (j : Nat) : 0 ≤ gapTo l j ∧ gapTo l j ≤ 5120000000 := by
  induction j with
  | zero => simp [gapTo]
  | succ j ih => have := inb_at h j; have := inb_at h (j + 1); simp only [gapTo]; omega
def gz (k : Int) : Int := gapTo (bkz k) ((bkz k).length - 1)
theorem run_max_int {P : Program} (t : Array TypeId) (y : TypeId) (W : World) (a b : Int) : (Builtin.max_ t y #[.int .i64 a, .int .i64 b]).run P W = .ok (.int .i64 (max a b)) W := by
  by_cases h : a < b
  · rw [Int.max_eq_right (by omega)]; simp [Builtin.max_, Builtin.max2, h]
  · rw [Int.max_eq_left (by omega)]; simp [Builtin.max_, Builtin.max2, h]

end Go.Proofs.YtochabikpaoalaaGreat
namespace Go.Proofs.YtochabikpaoalaaGreat
/-- 64 bits hold it -/
def I64 (a : Int) : Prop := -9223372036854775808 ≤ a ∧ a ≤ 9223372036854775807
/-- the first place below n of which p holds, else n -/
def lowest (p : Nat → Bool) : Nat → Nat
  | 0 => 0
  | n + 1 => if lowest p n < n then lowest p n else if p n then n else n + 1
theorem lowest_ok (p : Nat → Bool) : ∀ n, lowest p n ≤ n ∧ (∀ i, i < lowest p n → p i = false) ∧ (lowest p n < n → p (lowest p n) = true)
  | 0 => ⟨Nat.le_refl _, fun i hi => by simp [lowest] at hi, fun h => by simp [lowest] at h⟩
  | n + 1 => by
    obtain ⟨h1, h2, h3⟩ := lowest_ok p n
    unfold lowest
    by_cases h : lowest p n < n
    · rw [if_pos h]; exact ⟨by omega, h2, fun _ => h3 h⟩
    · rw [if_neg h]
      have e : lowest p n = n := by omega
      rw [e] at h2
      cases hp : p n
      · rw [if_neg (by simp)]
        refine ⟨Nat.le_refl _, fun i hi => ?_, fun h => by omega⟩
        rcases Nat.lt_or_ge i n with h' | h'
        · exact h2 i h'
        · obtain rfl : i = n := by omega
          exact hp
      · rw [if_pos rfl]; exact ⟨by omega, h2, fun _ => hp⟩
theorem lowest_eq {p : Nat → Bool} {n c : Nat} (hc : c ≤ n) (h1 : ∀ i, i < c → p i = false) (h2 : c < n → p c = true) : lowest p n = c := by
  obtain ⟨k1, k2, k3⟩ := lowest_ok p n
  rcases Nat.lt_trichotomy (lowest p n) c with h | h | h
  · have a := h1 _ h
    have b := k3 (by omega)
    rw [a] at b; cases b
  · exact h
  · have a := k2 _ h
    have b := h2 (by omega)
    rw [a] at b; cases b
theorem rise1 : ∀ k < 4, (List.range 255).all (fun j => decide (iat (bk k) j < iat (bk k) (j + 1))) = true := by decide +kernel
theorem sides1 : ∀ k < 4, (List.range 256).all (fun j => decide (-den (k : Nat) ≤ iat (bk k) j) && (decide (iat (bk k) j ≤ den (k : Nat)) && (sgn (k : Nat) || decide (0 ≤ iat (bk k) j)))) = true := by decide +kernel
theorem lasts : ∀ k < 4, iat (bk k) 255 = den (k : Nat) := by decide +kernel
theorem dens : ∀ k < 4, den (k : Nat) = 2560000000 ∨ den (k : Nat) = 255 := by decide +kernel
theorem bk_lt {k : Nat} (hk : k < 4) {j : Nat} (hj : j < 255) : iat (bk k) j < iat (bk k) (j + 1) := by
  have := List.all_eq_true.1 (rise1 k hk) j (by simpa using hj)
  simpa using this
theorem bk_mono {k : Nat} (hk : k < 4) {i : Nat} : ∀ {j : Nat}, i ≤ j → j ≤ 255 → iat (bk k) i ≤ iat (bk k) j
  | 0, h, _ => by obtain rfl : i = 0 := by omega
                  exact Int.le_refl _
  | j + 1, h, h' => by
    rcases Nat.lt_or_ge i (j + 1) with hlt | hge
    · have a := bk_mono hk (i := i) (j := j) (by omega) (by omega)
      have b := bk_lt hk (j := j) (by omega)
      omega
    · obtain rfl : i = j + 1 := by omega
      exact Int.le_refl _
theorem bk_side {k : Nat} (hk : k < 4) {j : Nat} (hj : j < 256) : -den (k : Nat) ≤ iat (bk k) j ∧ iat (bk k) j ≤ den (k : Nat) ∧ (sgn (k : Nat) = true ∨ 0 ≤ iat (bk k) j) := by
  have := List.all_eq_true.1 (sides1 k hk) j (by simpa using hj)
  simpa using this
theorem iat_out {l : List Int} {j : Nat} (h : l.length ≤ j) : iat l j = 0 := by unfold iat; rw [List.getElem?_eq_none h]; rfl
theorem bk_in {k : Nat} (hk : k < 4) (j : Nat) : -2560000000 ≤ iat (bk k) j ∧ iat (bk k) j ≤ 2560000000 := by
  rcases Nat.lt_or_ge j 256 with h | h
  · obtain ⟨h1, h2, _⟩ := bk_side hk h
    rcases dens k hk with e | e <;> rw [e] at h1 h2 <;> omega
  · rw [iat_out (by rw [bk_len k hk]; exact h)]; omega
/-- is a share no more than the middle behind place i? -/
def pAt (n : Nat) (num d : Int) (i : Nat) : Bool := decide (num * (2 * den (n : Nat)) ≤ (iat (bk n) i + iat (bk n) (i + 1)) * d)
def share (k num d : Int) : Bool := decide (0 ≤ k ∧ k ≤ 3) && (decide (1 ≤ d) && (decide (num ≤ d) && (decide (-d ≤ num) && (decide (0 ≤ num) || sgn k))))
def codeOf (k num d : Int) : Nat := if share k num d then lowest (pAt k.toNat num d) 255 else 0
def codeE (k num d : Int) : Int := if share k num d then 0 else 1
theorem codeOf_le (k num d : Int) : codeOf k num d ≤ 255 := by unfold codeOf; split; exact (lowest_ok _ _).1; omega
theorem pAt_mono {n : Nat} (hn : n < 4) {num d : Int} (hd : 1 ≤ d) {i j : Nat} (h : i ≤ j) (hj : j < 255) (hp : pAt n num d i = true) : pAt n num d j = true := by
  unfold pAt at *
  have h1 := bk_mono hn (i := i) (j := j) h (by omega)
  have h2 := bk_mono hn (i := i + 1) (j := j + 1) (by omega) (by omega)
  have := Int.mul_le_mul_of_nonneg_right (show iat (bk n) i + iat (bk n) (i + 1) ≤ iat (bk n) j + iat (bk n) (j + 1) by omega) (show 0 ≤ d by omega)
  simp only [decide_eq_true_eq] at *
  omega
theorem cmpI_le (x y : Int) : decide (cmpI x y ≤ 0) = decide (x ≤ y) := by
  unfold cmpI
  by_cases h : x < y
  · rw [if_pos h]; simp; omega
  · rw [if_neg h]
    by_cases h2 : y < x
    · rw [Bool.eq_iff_iff]; simp; (try split) <;> omega
    · rw [Bool.eq_iff_iff]; simp; (try split) <;> omega
end Go.Proofs.YtochabikpaoalaaGreat
namespace Go.Proofs.YtochabikpaoalaaGreat
theorem share_iff (k num d : Int) : share k num d = true ↔ (0 ≤ k ∧ k ≤ 3) ∧ 1 ≤ d ∧ num ≤ d ∧ -d ≤ num ∧ (0 ≤ num ∨ sgn k = true) := by
  unfold share; simp only [Bool.and_eq_true, decide_eq_true_eq, Bool.or_eq_true]
theorem codeE_zero {k num d : Int} (h : codeE k num d = 0) : share k num d = true := by
  unfold codeE at h
  cases e : share k num d
  · rw [e] at h; simp at h
  · rfl
theorem codeE_cases (k num d : Int) : codeE k num d = 0 ∨ codeE k num d = 1 := by unfold codeE; split <;> simp
theorem codeE_of {k num d : Int} (h : share k num d = true) : codeE k num d = 0 := if_pos h
theorem codeOf_of {k num d : Int} (h : share k num d = true) : codeOf k num d = lowest (pAt k.toNat num d) 255 := if_pos h
theorem dens_pos {n : Nat} (hn : n < 4) : 255 ≤ den (n : Nat) ∧ den (n : Nat) ≤ 2560000000 := by rcases dens n hn with e | e <;> omega
theorem pAt_false {n : Nat} {num d : Int} {i : Nat} : pAt n num d i = false ↔ (iat (bk n) i + iat (bk n) (i + 1)) * d < num * (2 * den (n : Nat)) := by
  unfold pAt; rw [decide_eq_false_iff_not]; omega
theorem pAt_true {n : Nat} {num d : Int} {i : Nat} : pAt n num d i = true ↔ num * (2 * den (n : Nat)) ≤ (iat (bk n) i + iat (bk n) (i + 1)) * d := by
  unfold pAt; rw [decide_eq_true_iff]
theorem kind_nat {k : Int} (h : 0 ≤ k ∧ k ≤ 3) : ∃ n : Nat, k = n ∧ n < 4 := ⟨k.toNat, by omega, by omega⟩
/-- ORDER -/
theorem order_runs {k a b d : Int} (h1 : codeE k a d = 0) (h2 : codeE k b d = 0) (hab : a ≤ b) : codeOf k a d ≤ codeOf k b d ∧ codeE k d d = 0 ∧ codeOf k d d = 255 := by
  have s1 := codeE_zero h1
  have s2 := codeE_zero h2
  obtain ⟨hk, hd, _⟩ := (share_iff k a d).1 s1
  have s3 : share k d d = true := (share_iff k d d).2 ⟨hk, hd, by omega, by omega, by omega⟩
  obtain ⟨n, rfl, hn⟩ := kind_nat hk
  refine ⟨?_, codeE_of s3, ?_⟩
  · rw [codeOf_of s1, codeOf_of s2, Int.toNat_natCast]
    obtain ⟨k1, k2, k3⟩ := lowest_ok (pAt n a d) 255
    obtain ⟨m1, m2, m3⟩ := lowest_ok (pAt n b d) 255
    rcases Nat.lt_or_ge (lowest (pAt n b d) 255) (lowest (pAt n a d) 255) with h | h
    · have x := pAt_true.1 (m3 (by omega))
      have y := pAt_false.1 (k2 _ h)
      have z := Int.mul_le_mul_of_nonneg_right hab (show (0 : Int) ≤ 2 * den (n : Nat) by have := dens_pos hn; omega)
      omega
    · exact h
  · rw [codeOf_of s3, Int.toNat_natCast]
    refine lowest_eq (Nat.le_refl _) (fun i hi => pAt_false.2 ?_) (fun h => by omega)
    have a1 := bk_lt hn hi
    have a2 := (bk_side hn (j := i + 1) (by omega)).2.1
    have hs : iat (bk n) i + iat (bk n) (i + 1) ≤ 2 * den (n : Nat) - 1 := by omega
    have := Int.mul_le_mul_of_nonneg_right hs (show 0 ≤ d by omega)
    rw [Int.sub_mul, Int.one_mul, Int.mul_comm (2 * den (n : Nat)) d] at this
    omega
theorem mul_le_iff {a b c : Int} (h : 1 ≤ c) : a * c ≤ b * c ↔ a ≤ b := Int.mul_le_mul_right (by omega)
/-- BACK -/
theorem back_runs {n c : Nat} (hn : n < 4) (hc : c < 256) {K : Int} (hK : 1 ≤ K) : codeE n (iat (bk n) c * K) (den (n : Nat) * K) = 0 ∧ codeOf n (iat (bk n) c * K) (den (n : Nat) * K) = c := by
  obtain ⟨d0, d1⟩ := dens_pos hn
  obtain ⟨e1, e2, e3⟩ := bk_side hn hc
  have hDK : 1 ≤ den (n : Nat) * K := by have := Int.mul_le_mul (show (1 : Int) ≤ den (n : Nat) by omega) hK (by omega) (by omega); omega
  have s : share n (iat (bk n) c * K) (den (n : Nat) * K) = true := by
    refine (share_iff _ _ _).2 ⟨by omega, hDK, (mul_le_iff hK).2 e2, ?_, ?_⟩
    · rw [← Int.neg_mul]; exact (mul_le_iff hK).2 e1
    · rcases e3 with e3 | e3
      · exact .inr e3
      · exact .inl (Int.mul_nonneg e3 (by omega))
  refine ⟨codeE_of s, ?_⟩
  rw [codeOf_of s, Int.toNat_natCast]
  have key : ∀ x : Int, x * (den (n : Nat) * K) < iat (bk n) c * K * (2 * den (n : Nat)) ↔ x < 2 * iat (bk n) c := by
    intro x
    have e : iat (bk n) c * K * (2 * den (n : Nat)) = 2 * iat (bk n) c * (den (n : Nat) * K) := by
      rw [Int.mul_assoc, Int.mul_left_comm K 2, ← Int.mul_assoc (iat (bk n) c) 2, Int.mul_comm (iat (bk n) c) 2, Int.mul_comm K (den (n : Nat))]
    rw [e]
    have := mul_le_iff (a := 2 * iat (bk n) c) (b := x) hDK
    omega
  refine lowest_eq (by omega) (fun i hi => pAt_false.2 ((key _).2 ?_)) (fun h => pAt_true.2 ?_)
  · have a1 := bk_lt hn (j := i) (by omega)
    have a2 := bk_mono hn (i := i + 1) (j := c) (by omega) (by omega)
    omega
  · have a1 := bk_lt hn (j := c) h
    have := key (iat (bk n) c + iat (bk n) (c + 1))
    omega
/-- SCALED -/
theorem scaled_runs (k num d : Int) {K : Int} (hK : 1 ≤ K) : codeE k (num * K) (d * K) = codeE k num d ∧ codeOf k (num * K) (d * K) = codeOf k num d := by
  have hd : 1 ≤ d * K ↔ 1 ≤ d := by
    constructor
    · intro h
      rcases Int.lt_or_le d 1 with h' | h'
      · have := Int.mul_le_mul_of_nonneg_right (show d ≤ 0 by omega) (show 0 ≤ K by omega)
        rw [Int.zero_mul] at this; omega
      · exact h'
    · intro h
      have := Int.mul_le_mul h hK (by omega) (by omega)
      omega
  have h0 : 0 ≤ num * K ↔ 0 ≤ num := by have := mul_le_iff (a := 0) (b := num) hK; rwa [Int.zero_mul] at this
  have hs : share k (num * K) (d * K) = share k num d := by
    rw [Bool.eq_iff_iff, share_iff, share_iff, hd, mul_le_iff hK, h0, ← Int.neg_mul, mul_le_iff hK]
  have hp : pAt k.toNat (num * K) (d * K) = pAt k.toNat num d := by
    funext i
    unfold pAt
    rw [show num * K * (2 * den (k.toNat : Nat)) = num * (2 * den (k.toNat : Nat)) * K from by rw [Int.mul_assoc, Int.mul_comm K, ← Int.mul_assoc], show (iat (bk k.toNat) i + iat (bk k.toNat) (i + 1)) * (d * K) = (iat (bk k.toNat) i + iat (bk k.toNat) (i + 1)) * d * K from (Int.mul_assoc _ _ _).symm]
    exact decide_eq_decide.2 (mul_le_iff hK)
  unfold codeE codeOf
  rw [hs, hp]
  exact ⟨rfl, rfl⟩
end Go.Proofs.YtochabikpaoalaaGreat
namespace Go.Proofs.YtochabikpaoalaaGreat
/-- how far a code's number is from a share, times both denominators -/
def dist (n : Nat) (num d : Int) (o : Nat) : Nat := (num * den (n : Nat) - iat (bk n) o * d).natAbs
theorem gaps1 : ∀ k < 4, (List.range 255).all (fun j => decide (iat (bk k) (j + 1) - iat (bk k) j ≤ gz (k : Nat))) = true := by decide +kernel
theorem low1 : ∀ k < 4, (if sgn (k : Nat) then decide (2 * (iat (bk k) 0 + den (k : Nat)) ≤ gz (k : Nat)) else decide (2 * iat (bk k) 0 ≤ gz (k : Nat))) = true := by decide +kernel
theorem gz_bound : ∀ k < 4, 0 ≤ gz (k : Nat) ∧ gz (k : Nat) ≤ 2560000000 := by decide +kernel
theorem gaps_at {k : Nat} (hk : k < 4) {j : Nat} (hj : j < 255) : iat (bk k) (j + 1) - iat (bk k) j ≤ gz (k : Nat) := by
  have := List.all_eq_true.1 (gaps1 k hk) j (by simpa using hj)
  simpa using this
theorem code_spec {n : Nat} (hn : n < 4) {num d : Int} (hs : share n num d = true) :
    (∀ i, i < codeOf n num d → (iat (bk n) i + iat (bk n) (i + 1)) * d < 2 * (num * den (n : Nat))) ∧ (∀ i, codeOf n num d ≤ i → i < 255 → 2 * (num * den (n : Nat)) ≤ (iat (bk n) i + iat (bk n) (i + 1)) * d) := by
  obtain ⟨_, hd, _⟩ := (share_iff _ _ _).1 hs
  rw [codeOf_of hs, Int.toNat_natCast]
  obtain ⟨h1, h2, h3⟩ := lowest_ok (pAt n num d) 255
  have e : num * (2 * den (n : Nat)) = 2 * (num * den (n : Nat)) := by rw [Int.mul_left_comm]
  refine ⟨fun i hi => by have := pAt_false.1 (h2 i hi); rwa [e] at this, fun i h h' => ?_⟩
  have := pAt_true.1 (pAt_mono hn hd h h' (h3 (by omega)))
  rwa [e] at this
theorem near_dist {n : Nat} (hn : n < 4) {num d : Int} (hs : share n num d = true) {o : Nat} (ho : o < 256) :
    (o < codeOf n num d → dist n num d (codeOf n num d) < dist n num d o) ∧ (codeOf n num d ≤ o → dist n num d (codeOf n num d) ≤ dist n num d o) := by
  obtain ⟨lo, hi⟩ := code_spec hn hs
  obtain ⟨_, hd, _⟩ := (share_iff _ _ _).1 hs
  have hc := codeOf_le n num d
  generalize codeOf n num d = c at *
  unfold dist
  generalize num * den (n : Nat) = X at *
  constructor
  · intro h
    have a := lo (c - 1) (by omega)
    rw [Nat.sub_add_cancel (by omega), Int.add_mul] at a
    have m1 := Int.mul_le_mul_of_nonneg_right (bk_mono hn (i := o) (j := c - 1) (by omega) (by omega)) (show 0 ≤ d by omega)
    have m2 := bk_lt hn (j := c - 1) (by omega)
    rw [Nat.sub_add_cancel (by omega)] at m2
    have m3 := Int.mul_lt_mul_of_pos_right m2 (show 0 < d by omega)
    omega
  · intro h
    rcases Nat.eq_or_lt_of_le h with rfl | h
    · exact Nat.le_refl _
    · have a := hi c (Nat.le_refl _) (by omega)
      rw [Int.add_mul] at a
      have m1 := Int.mul_le_mul_of_nonneg_right (bk_mono hn (i := c + 1) (j := o) (by omega) (by omega)) (show 0 ≤ d by omega)
      have m3 := Int.mul_lt_mul_of_pos_right (bk_lt hn (j := c) (by omega)) (show 0 < d by omega)
      omega
theorem near_gap {n : Nat} (hn : n < 4) {num d : Int} (hs : share n num d = true) : (2 * dist n num d (codeOf n num d) : Nat) ≤ gz (n : Nat) * d := by
  obtain ⟨lo, hi⟩ := code_spec hn hs
  obtain ⟨_, hd, hnd, hdn, hsg⟩ := (share_iff _ _ _).1 hs
  have hc := codeOf_le n num d
  generalize codeOf n num d = c at *
  obtain ⟨d0, d1⟩ := dens_pos hn
  have g0 := (gz_bound n hn).1
  have u1 := Int.mul_le_mul_of_nonneg_right hnd (show (0 : Int) ≤ den (n : Nat) by omega)
  have gd := Int.mul_nonneg g0 (show 0 ≤ d by omega)
  have hlow := low1 n hn
  have hsd := (bk_side hn (j := 0) (by omega)).2.2
  unfold dist
  have l1 : num * den (n : Nat) - iat (bk n) c * d ≤ 0 ∨ 2 * (num * den (n : Nat) - iat (bk n) c * d) ≤ gz (n : Nat) * d := by
    rcases Nat.lt_or_ge c 255 with h | h
    · have a := hi c (Nat.le_refl _) h
      have b := Int.mul_le_mul_of_nonneg_right (gaps_at hn h) (show 0 ≤ d by omega)
      rw [Int.sub_mul] at b
      rw [Int.add_mul] at a
      right; omega
    · obtain rfl : c = 255 := by omega
      left; rw [lasts n hn, Int.mul_comm (den (n : Nat)) d]; omega
  have l2 : iat (bk n) c * d - num * den (n : Nat) ≤ 0 ∨ 2 * (iat (bk n) c * d - num * den (n : Nat)) ≤ gz (n : Nat) * d := by
    rcases Nat.eq_zero_or_pos c with rfl | h
    · right
      rcases hsg with hz | hz
      · have hp := Int.mul_nonneg hz (show (0 : Int) ≤ den (n : Nat) by omega)
        have b : 2 * iat (bk n) 0 ≤ gz (n : Nat) := by
          cases h : sgn (n : Nat)
          · rw [h] at hlow; simpa using hlow
          · rw [h] at hlow
            have : 2 * (iat (bk n) 0 + den (n : Nat)) ≤ gz (n : Nat) := by simpa using hlow
            omega
        have := Int.mul_le_mul_of_nonneg_right b (show 0 ≤ d by omega)
        rw [Int.mul_assoc] at this
        omega
      · rw [hz] at hlow
        have b : 2 * (iat (bk n) 0 + den (n : Nat)) ≤ gz (n : Nat) := by simpa using hlow
        have e := Int.mul_le_mul_of_nonneg_right hdn (show (0 : Int) ≤ den (n : Nat) by omega)
        rw [Int.neg_mul] at e
        have := Int.mul_le_mul_of_nonneg_right b (show 0 ≤ d by omega)
        rw [Int.mul_assoc, Int.add_mul, Int.mul_comm (den (n : Nat)) d] at this
        omega
    · have a := lo (c - 1) (by omega)
      have b := Int.mul_le_mul_of_nonneg_right (gaps_at hn (j := c - 1) (by omega)) (show 0 ≤ d by omega)
      rw [Nat.sub_add_cancel (by omega), Int.sub_mul] at b
      rw [Nat.sub_add_cancel (by omega), Int.add_mul] at a
      right; omega
  omega
end Go.Proofs.YtochabikpaoalaaGreat
