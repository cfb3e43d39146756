/- Blocks, plainly: what is packed, what is loaded, and what holds of both. No program in sight but for the words of the codebooks. -/
import Derived.Test.YtochabikpaoalaaGreatBook5
import Derived.Test.YtochabikpaoalaaGreatZedW
namespace Go.Proofs.YtochabikpaoalaaGreat
/-- the greatest of numbers, whatever its side -/
def great : List Int → Int
  | [] => 0
  | x :: r => max (max (great r) x) (-x)
theorem great_snoc (l : List Int) (x : Int) : great (l ++ [x]) = max (max (great l) x) (-x) := by
  induction l with
  | nil => rfl
  | cons y r ih => simp only [List.cons_append, great, ih]; omega
theorem great_nonneg (l : List Int) : 0 ≤ great l := by
  induction l with
  | nil => simp [great]
  | cons y r ih => simp only [great]; omega
theorem great_mem {l : List Int} {x : Int} (h : x ∈ l) : x ≤ great l ∧ -x ≤ great l := by
  induction l with
  | nil => cases h
  | cons y r ih =>
    simp only [great]
    rcases List.mem_cons.1 h with rfl | h
    · omega
    · have := ih h; omega
theorem great_or (l : List Int) : great l = 0 ∨ ∃ x ∈ l, great l = x ∨ great l = -x := by
  induction l with
  | nil => left; rfl
  | cons y r ih =>
    by_cases h1 : great (y :: r) = y
    · exact .inr ⟨y, List.mem_cons_self, .inl h1⟩
    by_cases h2 : great (y :: r) = -y
    · exact .inr ⟨y, List.mem_cons_self, .inr h2⟩
    have e : great (y :: r) = great r := by simp only [great] at *; omega
    rw [e]
    rcases ih with h | ⟨x, hx, h⟩
    · exact .inl h
    · exact .inr ⟨x, List.mem_cons_of_mem _ hx, h⟩
theorem great_le {l : List Int} {s : Int} (hs : 0 ≤ s) (h : ∀ x ∈ l, x ≤ s ∧ -x ≤ s) : great l ≤ s := by
  induction l with
  | nil => simpa [great] using hs
  | cons y r ih =>
    have h1 := h y List.mem_cons_self
    have h2 := ih fun x hx => h x (List.mem_cons_of_mem _ hx)
    simp only [great]; omega
theorem great_in {l : List Int} (h : ∀ x ∈ l, I64 x) (hm : ∀ x ∈ l, x ≠ -9223372036854775808) : great l ≤ 9223372036854775807 :=
  great_le (by omega) fun x hx => by have := h x hx; have := hm x hx; unfold I64 at *; omega
/- to the nearest -/
theorem nearZ_err (A : Int) (D : Nat) (hD : 0 < D) : 2 * ((D : Int) * nearZ A D) ≤ 2 * A + D ∧ 2 * A ≤ 2 * ((D : Int) * nearZ A D) + D := by
  have h1 := Int.mul_ediv_add_emod A D
  have h2 := Int.emod_nonneg A (show (D : Int) ≠ 0 by omega)
  have h3 := Int.emod_lt_of_pos A (show (0 : Int) < D by omega)
  unfold nearZ
  split
  · rw [Int.mul_add, Int.mul_one]; generalize (D : Int) * (A / D) = X at *; omega
  · generalize (D : Int) * (A / D) = X at *; omega
theorem nearZ_mono {A B : Int} {D : Nat} (hD : 0 < D) (h : A ≤ B) : nearZ A D ≤ nearZ B D := by
  rcases Int.lt_or_le (nearZ B D) (nearZ A D) with h' | h'
  · rcases Int.lt_or_eq_of_le h with h | h
    · have e1 := (nearZ_err A D hD).1
      have e2 := (nearZ_err B D hD).2
      have e3 := Int.mul_le_mul_of_nonneg_left (show nearZ B D + 1 ≤ nearZ A D by omega) (show (0 : Int) ≤ D by omega)
      rw [Int.mul_add, Int.mul_one] at e3
      omega
    · rw [h] at h'; omega
  · exact h'
theorem nearZ_whole (s : Int) (D : Nat) (hD : 0 < D) : nearZ (s * D) D = s := by
  obtain ⟨e1, e2⟩ := nearZ_err (s * D) D hD
  rw [Int.mul_comm s D] at e1 e2 ⊢
  generalize nearZ ((D : Int) * s) D = z at *
  rcases Int.lt_trichotomy z s with h | h | h
  · have := Int.mul_le_mul_of_nonneg_left (show z + 1 ≤ s by omega) (show (0 : Int) ≤ D by omega)
    rw [Int.mul_add, Int.mul_one] at this; omega
  · exact h
  · have := Int.mul_le_mul_of_nonneg_left (show s + 1 ≤ z by omega) (show (0 : Int) ≤ D by omega)
    rw [Int.mul_add, Int.mul_one] at this; omega
/-- a code's number, times Scale, by the denominator -/
def loadZ (n : Nat) (s : Int) (c : Nat) : Int := nearZ (s * iat (bk n) c) (den (n : Nat)).toNat
theorem den_nat {n : Nat} (hn : n < 4) : 0 < (den (n : Nat)).toNat ∧ (((den (n : Nat)).toNat : Nat) : Int) = den (n : Nat) := by have := dens_pos hn; omega
theorem loadZ_le {n : Nat} (hn : n < 4) {s : Int} (hs : 0 ≤ s) {c : Nat} (hc : c < 256) : loadZ n s c ≤ s ∧ -s ≤ loadZ n s c ∧ (sgn (n : Nat) = false → 0 ≤ loadZ n s c) := by
  obtain ⟨d0, d1⟩ := den_nat hn
  obtain ⟨b1, b2, b3⟩ := bk_side hn hc
  unfold loadZ
  rw [← d1] at b1 b2
  generalize (den (n : Nat)).toNat = D at *
  generalize iat (bk n) c = L at *
  refine ⟨?_, ?_, fun h => ?_⟩
  · have := nearZ_mono d0 (Int.mul_le_mul_of_nonneg_left b2 hs)
    rwa [nearZ_whole s D d0] at this
  · have h1 := Int.mul_le_mul_of_nonneg_left b1 hs
    rw [Int.mul_neg, ← Int.neg_mul] at h1
    have := nearZ_mono d0 h1
    rwa [nearZ_whole (-s) D d0] at this
  · have h1 := nearZ_mono d0 (Int.mul_nonneg hs (show 0 ≤ L by rw [h] at b3; simpa using b3))
    have := nearZ_whole 0 D d0
    rw [Int.zero_mul] at this
    rwa [this] at h1
theorem loadZ_top {n : Nat} (hn : n < 4) (s : Int) : loadZ n s 255 = s := by
  obtain ⟨d0, d1⟩ := den_nat hn
  unfold loadZ
  rw [lasts n hn, ← d1, Int.toNat_natCast]
  exact nearZ_whole s _ d0
theorem loadZ_zero {n : Nat} (hn : n < 4) (c : Nat) : loadZ n 0 c = 0 := by
  obtain ⟨d0, _⟩ := den_nat hn
  unfold loadZ
  have := nearZ_whole 0 _ d0
  rw [Int.zero_mul] at this ⊢
  exact this
theorem loadZ_mono {n : Nat} (hn : n < 4) {s : Int} (hs : 0 ≤ s) {c e : Nat} (hc : c ≤ e) (he : e < 256) : loadZ n s c ≤ loadZ n s e :=
  nearZ_mono (den_nat hn).1 (Int.mul_le_mul_of_nonneg_left (bk_mono hn hc (by omega)) hs)
/-- may a number not be in a block of a kind? -/
def oddB (sg : Bool) (x : Int) : Bool := decide (x = -9223372036854775808) || (decide (x < 0) && !sg)
/-- is a block right? -/
def blkR (k s : Int) (cs : List Nat) (wd : List Int) : Bool :=
  decide (cs.length + wd.length ≤ 4096) && (if k = 4 then decide (s = 0) && (decide (cs = []) && !wd.contains (-9223372036854775808))
    else decide (0 ≤ k ∧ k ≤ 3) && (decide (wd = []) && (decide (0 ≤ s) && (if s = 0 then cs.all (fun c => decide (c = codeOf k 0 1)) else cs.contains (codeOf k 1 1) || (decide (codeE k (-1) 1 = 0) && cs.contains (codeOf k (-1) 1))))))
/-- why numbers are no block -/
def packE (k : Int) (l : List Int) : Int := if (0 ≤ k ∧ k ≤ 4) ∧ l.any (oddB (k == 4 || sgn k)) = false then (if l.length ≤ 4096 then 0 else 6) else 1
/-- the codes of what is packed -/
def packC (k : Int) (l : List Int) : List Nat := l.map fun x => codeOf k x (max (great l) 1)
/-- what is loaded of codes -/
def loadC (n : Nat) (s : Int) (cs : List Nat) : List Int := cs.map (loadZ n s)
theorem share_packed {n : Nat} (hn : n < 4) {l : List Int} (ho : l.any (oddB (sgn (n : Nat))) = false) {x : Int} (hx : x ∈ l) : share n x (max (great l) 1) = true := by
  have h1 := great_mem hx
  have h2 : oddB (sgn (n : Nat)) x = false := by
    cases h : oddB (sgn (n : Nat)) x
    · rfl
    · have : l.any (oddB (sgn (n : Nat))) = true := List.any_eq_true.2 ⟨x, hx, h⟩
      rw [ho] at this; cases this
  rw [share_iff]
  unfold oddB at h2
  refine ⟨by omega, by omega, by omega, by omega, ?_⟩
  cases hs : sgn (n : Nat)
  · rw [hs] at h2; left; simp at h2; omega
  · exact .inr rfl
theorem share_one {n : Nat} (hn : n < 4) : share n 1 1 = true := (share_iff _ _ _).2 ⟨by omega, by omega, by omega, by omega, by omega⟩
theorem codeOf_one {n : Nat} (hn : n < 4) : codeOf n 1 1 = 255 := (order_runs (codeE_of (share_one hn)) (codeE_of (share_one hn)) (Int.le_refl 1)).2.2
theorem codeE_low {n : Nat} (hn : n < 4) (hs : sgn (n : Nat) = true) : codeE n (-1) 1 = 0 := codeE_of ((share_iff _ _ _).2 ⟨by omega, by omega, by omega, by omega, .inr hs⟩)
theorem mem_code {l : List Int} {k : Int} {x : Int} (hx : x ∈ l) : codeOf k x (max (great l) 1) ∈ packC k l := List.mem_map.2 ⟨x, hx, rfl⟩
theorem packC_len (k : Int) (l : List Int) : (packC k l).length = l.length := by unfold packC; rw [List.length_map]
theorem packC_lt {k : Int} {l : List Int} : ∀ c ∈ packC k l, c < 256 := by
  intro c hc; obtain ⟨x, _, rfl⟩ := List.mem_map.1 hc; have := codeOf_le k x (max (great l) 1); omega
theorem scale_one {k s : Int} (hs : 1 ≤ s) : codeOf k s s = codeOf k 1 1 ∧ codeOf k (-s) s = codeOf k (-1) 1 := by
  have h1 := (scaled_runs k 1 1 hs).2
  have h2 := (scaled_runs k (-1) 1 hs).2
  rw [Int.one_mul] at h1
  rw [Int.one_mul, Int.neg_mul, Int.one_mul] at h2
  exact ⟨h1, h2⟩
/-- of what is packed with a Scale above 0 some code is the greatest, or the least -/
theorem packed_end {n : Nat} (hn : n < 4) {l : List Int} (ho : l.any (oddB (sgn (n : Nat))) = false) (h0 : great l ≠ 0) :
    codeOf n 1 1 ∈ packC n l ∨ (sgn (n : Nat) = true ∧ codeOf n (-1) 1 ∈ packC n l) := by
  have hg := great_nonneg l
  have hm : max (great l) 1 = great l := by omega
  rcases great_or l with h | ⟨x, hx, h | h⟩
  · exact absurd h h0
  · left
    have := mem_code (k := (n : Int)) hx
    rw [hm, ← h, (scale_one (by omega)).1] at this
    exact this
  · right
    have h2 := (share_iff _ _ _).1 (share_packed hn ho hx)
    refine ⟨h2.2.2.2.2.resolve_left (by omega), ?_⟩
    have := mem_code (k := (n : Int)) hx
    rw [hm, show x = -great l by omega] at this
    rw [(scale_one (by omega)).2] at this
    exact this
/-- RIGHT: what is packed is -/
theorem packed_right {n : Nat} (hn : n < 4) {l : List Int} (hl : l.length ≤ 4096) (ho : l.any (oddB (sgn (n : Nat))) = false) : blkR n (great l) (packC n l) [] = true := by
  have hg := great_nonneg l
  unfold blkR
  rw [packC_len, if_neg (by omega)]
  simp only [List.length_nil, Nat.add_zero, Bool.and_eq_true, decide_eq_true_eq]
  refine ⟨hl, by omega, trivial, hg, ?_⟩
  by_cases h0 : great l = 0
  · rw [if_pos h0, List.all_eq_true]
    intro c hc
    obtain ⟨x, hx, rfl⟩ := List.mem_map.1 hc
    have := great_mem hx
    rw [show x = 0 by omega, h0]
    exact decide_eq_true rfl
  · rw [if_neg h0]
    rcases packed_end hn ho h0 with h | ⟨hs, h⟩
    · simp [h]
    · simp [h, codeE_low hn hs]
theorem wide_right {l : List Int} (hl : l.length ≤ 4096) (ho : l.any (oddB true) = false) : blkR 4 0 [] l = true := by
  unfold blkR
  rw [if_pos rfl]
  simp only [List.length_nil, Nat.zero_add, Bool.and_eq_true, decide_eq_true_eq, Bool.not_eq_true']
  refine ⟨hl, trivial, trivial, ?_⟩
  cases h : l.contains (-9223372036854775808)
  · rfl
  · have h' := List.contains_iff_mem.1 h
    have : l.any (oddB true) = true := List.any_eq_true.2 ⟨_, h', by simp [oddB]⟩
    rw [ho] at this; cases this
theorem load_mem {n : Nat} (hn : n < 4) {s : Int} (hs : 0 ≤ s) {cs : List Nat} (hc : ∀ c ∈ cs, c < 256) {x : Int} (hx : x ∈ loadC n s cs) : x ≤ s ∧ -x ≤ s ∧ (sgn (n : Nat) = false → 0 ≤ x) := by
  obtain ⟨c, hc', rfl⟩ := List.mem_map.1 hx
  obtain ⟨h1, h2, h3⟩ := loadZ_le hn hs (hc c hc')
  exact ⟨h1, by omega, h3⟩
theorem load_great {n : Nat} (hn : n < 4) {l : List Int} (ho : l.any (oddB (sgn (n : Nat))) = false) :
    great (loadC n (great l) (packC n l)) ≤ great l ∧ (sgn (n : Nat) = false → great (loadC n (great l) (packC n l)) = great l) := by
  have hg := great_nonneg l
  have h1 : great (loadC n (great l) (packC n l)) ≤ great l := great_le hg fun x hx => by
    have := load_mem hn hg packC_lt hx; omega
  refine ⟨h1, fun hs => ?_⟩
  by_cases h0 : great l = 0
  · have := great_nonneg (loadC n (great l) (packC n l)); omega
  · rcases packed_end hn ho h0 with h | ⟨hs', _⟩
    · rw [codeOf_one hn] at h
      have h2 : loadZ n (great l) 255 ∈ loadC n (great l) (packC n l) := List.mem_map.2 ⟨_, h, rfl⟩
      have := great_mem h2
      rw [loadZ_top hn] at this
      omega
    · rw [hs] at hs'; cases hs'
theorem not_odd {n : Nat} (hn : n < 4) {s : Int} (hs : 0 ≤ s) (h1 : s ≤ 9223372036854775807) {cs : List Nat} (hc : ∀ c ∈ cs, c < 256) : (loadC n s cs).any (oddB (sgn (n : Nat))) = false ∧ (loadC n s cs).any (oddB true) = false := by
  constructor
  all_goals
    rw [List.any_eq_false]
    intro x hx
    obtain ⟨a, b, c⟩ := load_mem hn hs hc hx
    unfold oddB
    simp only [Bool.or_eq_true, Bool.and_eq_true, decide_eq_true_eq, Bool.not_eq_true', not_or, not_and]
    refine ⟨by omega, fun h => ?_⟩
  · intro h'; have := c h'; omega
  · simp
/-- NEAR: how far what is loaded is from what was packed -/
theorem near_loaded {n : Nat} (hn : n < 4) {l : List Int} (ho : l.any (oddB (sgn (n : Nat))) = false) {x : Int} (hx : x ∈ l) :
    (((x - loadZ n (great l) (codeOf n x (max (great l) 1))).natAbs : Nat) : Int) * (2 * den (n : Nat)) ≤ great l * gz (n : Nat) + den (n : Nat) := by
  have hg := great_nonneg l
  have hs := share_packed hn ho hx
  obtain ⟨d0, d1⟩ := den_nat hn
  have g0 := (gz_bound n hn).1
  have hm := great_mem hx
  by_cases h0 : great l = 0
  · rw [h0, loadZ_zero hn, show x = 0 by omega]
    simp; omega
  · have e : max (great l) 1 = great l := by omega
    rw [e] at hs ⊢
    have h1 := near_gap hn hs
    unfold dist at h1
    have hc := codeOf_le n x (great l)
    generalize codeOf n x (great l) = c at *
    obtain ⟨h2, h3⟩ := nearZ_err (great l * iat (bk n) c) _ d0
    rw [d1] at h2 h3
    change _ ≤ _ at h2
    unfold loadZ
    generalize nearZ (great l * iat (bk n) c) (den (n : Nat)).toNat = m at *
    rw [Int.mul_comm (great l) (gz (n : Nat))]
    rw [Int.mul_comm (great l) (iat (bk n) c)] at h2 h3
    generalize gz (n : Nat) * great l = G at *
    generalize iat (bk n) c * great l = P at *
    have e1 : (((x - m).natAbs : Nat) : Int) * (2 * den (n : Nat)) = 2 * (((x * den (n : Nat) - den (n : Nat) * m).natAbs : Nat) : Int) := by
      rw [Int.mul_comm (den (n : Nat)) m, ← Int.sub_mul, Int.natAbs_mul, Int.natCast_mul, show (((den (n : Nat)).natAbs : Nat) : Int) = den (n : Nat) by omega, Int.mul_left_comm]
    rw [e1]
    generalize den (n : Nat) * m = M at *
    generalize x * den (n : Nat) = X at *
    omega
/-- ORDER -/
theorem order_loaded {n : Nat} (hn : n < 4) {l : List Int} (ho : l.any (oddB (sgn (n : Nat))) = false) {x y : Int} (hx : x ∈ l) (hy : y ∈ l) (h : x ≤ y) :
    codeOf n x (max (great l) 1) ≤ codeOf n y (max (great l) 1) ∧ loadZ n (great l) (codeOf n x (max (great l) 1)) ≤ loadZ n (great l) (codeOf n y (max (great l) 1)) := by
  have h1 := (order_runs (codeE_of (share_packed hn ho hx)) (codeE_of (share_packed hn ho hy)) h).1
  exact ⟨h1, loadZ_mono hn (great_nonneg l) h1 (by have := codeOf_le n y (max (great l) 1); omega)⟩
/- TWICE -/
theorem line2 : ∀ c < 256, iat (bk 2) c = 2 * (c : Int) - 255 := by decide +kernel
theorem line3 : ∀ c < 256, iat (bk 3) c = (c : Int) := by decide +kernel
theorem recode {n : Nat} (hn : n = 2 ∨ n = 3) {s : Int} (hs : 255 ≤ s) {c : Nat} (hc : c < 256) : codeOf n (loadZ n s c) s = c := by
  have hn4 : n < 4 := by omega
  obtain ⟨b1, b2, b3⟩ := loadZ_le hn4 (show 0 ≤ s by omega) hc
  have hsh : share n (loadZ n s c) s = true := (share_iff _ _ _).2 ⟨by omega, by omega, b1, b2, by
    cases h : sgn (n : Nat)
    · exact .inl (b3 h)
    · exact .inr rfl⟩
  have hd : den (n : Nat) = 255 := by rcases hn with rfl | rfl <;> rfl
  obtain ⟨e1, e2⟩ := nearZ_err (s * iat (bk n) c) (den (n : Nat)).toNat (by rw [hd]; decide)
  have hw : s = 255 → loadZ n s c = iat (bk n) c := by
    rintro rfl
    unfold loadZ
    rw [hd, Int.mul_comm]
    exact nearZ_whole _ 255 (by omega)
  rw [show nearZ (s * iat (bk n) c) (den (n : Nat)).toNat = loadZ n s c from rfl, hd, show ((Int.toNat 255 : Nat) : Int) = 255 from rfl] at e1 e2
  rw [codeOf_of hsh, Int.toNat_natCast]
  generalize loadZ n s c = m at *
  have key : ∀ i : Nat, i < 255 → (pAt n m s i = true ↔ m * 510 ≤ (iat (bk n) i + iat (bk n) (i + 1)) * s) := fun i _ => by rw [pAt_true, hd]; rfl
  have keyf : ∀ i : Nat, i < 255 → (pAt n m s i = false ↔ (iat (bk n) i + iat (bk n) (i + 1)) * s < m * 510) := fun i _ => by rw [pAt_false, hd]; rfl
  rcases hn with rfl | rfl
  · rw [line2 c hc] at hw e1 e2
    have f1 : s * (2 * (c : Int) - 255) = 2 * (s * c) - 255 * s := by rw [Int.mul_sub, Int.mul_left_comm]; omega
    rw [f1] at e1 e2
    have fi : ∀ i : Nat, i < 255 → (iat (bk 2) i + iat (bk 2) (i + 1)) * s = 4 * (s * i) - 508 * s := fun i hi => by
      rw [line2 i (by omega), line2 (i + 1) (by omega), Int.natCast_add]
      have : (2 * (i : Int) - 255 + (2 * ((i : Int) + 1) - 255)) = 4 * (i : Int) - 508 := by omega
      rw [show ((1 : Nat) : Int) = 1 from rfl, this, Int.sub_mul, Int.mul_assoc, Int.mul_comm (i : Int) s]
    refine lowest_eq (by omega) (fun i hi => (keyf i (by omega)).2 ?_) (fun h => (key c h).2 ?_)
    · rw [fi i (by omega)]
      have := Int.mul_le_mul_of_nonneg_left (show (i : Int) + 1 ≤ c by omega) (show 0 ≤ s by omega)
      rw [Int.mul_add, Int.mul_one] at this
      generalize s * (i : Int) = I at *
      generalize s * (c : Int) = C at *
      omega
    · rw [fi c h]
      generalize s * (c : Int) = C at *
      omega
  · rw [line3 c hc] at hw e1 e2
    have fi : ∀ i : Nat, i < 255 → (iat (bk 3) i + iat (bk 3) (i + 1)) * s = 2 * (s * i) + s := fun i hi => by
      rw [line3 i (by omega), line3 (i + 1) (by omega), Int.natCast_add]
      have : ((i : Int) + ((i : Int) + ((1 : Nat) : Int))) = 2 * (i : Int) + 1 := by omega
      rw [this, Int.add_mul, Int.mul_assoc, Int.mul_comm (i : Int) s, Int.one_mul]
    refine lowest_eq (by omega) (fun i hi => (keyf i (by omega)).2 ?_) (fun h => (key c h).2 ?_)
    · rw [fi i (by omega)]
      rcases Int.lt_or_eq_of_le hs with h' | rfl
      · have := Int.mul_le_mul_of_nonneg_left (show (i : Int) + 1 ≤ c by omega) (show 0 ≤ s by omega)
        rw [Int.mul_add, Int.mul_one] at this
        generalize s * (i : Int) = I at *
        generalize s * (c : Int) = C at *
        omega
      · have := hw rfl; omega
    · rw [fi c h]
      rcases Int.lt_or_eq_of_le hs with h' | rfl
      · generalize s * (c : Int) = C at *
        omega
      · have := hw rfl; omega
theorem twice_runs {n : Nat} (hn : n = 2 ∨ n = 3) {l : List Int} (ho : l.any (oddB (sgn (n : Nat))) = false) (hs : 255 ≤ great l) :
    great (loadC n (great l) (packC n l)) = great l ∧ packC n (loadC n (great l) (packC n l)) = packC n l := by
  have hn4 : n < 4 := by omega
  have h1 : great (loadC n (great l) (packC n l)) = great l := by
    refine Int.le_antisymm (load_great hn4 ho).1 ?_
    rcases packed_end hn4 ho (by omega) with h | ⟨hsg, h⟩
    · rw [codeOf_one hn4] at h
      have := (great_mem (List.mem_map.2 ⟨_, h, rfl⟩ : loadZ n (great l) 255 ∈ loadC n (great l) (packC n l))).1
      rwa [loadZ_top hn4] at this
    · obtain rfl : n = 2 := by
        rcases hn with rfl | rfl
        · rfl
        · cases hsg
      have hz : codeOf ((2 : Nat) : Int) (-1) 1 = 0 := by decide +kernel
      rw [hz] at h
      have : -loadZ 2 (great l) 0 ≤ great (loadC 2 (great l) (packC ((2 : Nat) : Int) l)) := (great_mem (List.mem_map.2 ⟨_, h, rfl⟩)).2
      have e : loadZ 2 (great l) 0 = -great l := by
        unfold loadZ
        rw [line2 0 (by omega), show great l * (2 * ((0 : Nat) : Int) - 255) = -great l * ((255 : Nat) : Int) by omega]
        exact nearZ_whole _ 255 (by omega)
      rw [e] at this
      omega
  refine ⟨h1, ?_⟩
  unfold packC at *
  rw [h1]
  unfold loadC
  rw [List.map_map, show max (great l) 1 = great l by omega]
  conv => rhs; rw [← List.map_id (List.map _ l)]
  refine List.map_congr_left fun c hc => ?_
  obtain ⟨x, _, rfl⟩ := List.mem_map.1 hc
  exact recode hn hs (by have := codeOf_le n x (great l); omega)
end Go.Proofs.YtochabikpaoalaaGreat
