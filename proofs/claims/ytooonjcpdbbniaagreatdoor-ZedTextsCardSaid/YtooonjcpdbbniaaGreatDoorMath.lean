/- Plain facts on limbs: the number that they stand for, and the limbs of a number. No program in sight, no conditions beyond those of each lemma. -/
namespace Go.Proofs.YtooonjcpdbbniaaGreatDoor

/-- 2 to the power of 64 -/
def W64 : Nat := 18446744073709551616
theorem W64_pos : 0 < W64 := by unfold W64; omega
theorem W64_eq : W64 = 18446744073709551616 := rfl

def num : List Nat → Nat
  | [] => 0
  | x :: r => x + W64 * num r
def Bd (l : List Nat) : Prop := ∀ x ∈ l, x < W64
/-- the limb at a place, nought behind the last -/
def lat (l : List Nat) (i : Nat) : Nat := l[i]?.getD 0
/-- 'right': no nought at the end -/
def Rt (l : List Nat) : Prop := l = [] ∨ lat l (l.length - 1) ≠ 0

theorem num_append (a b : List Nat) : num (a ++ b) = num a + W64 ^ a.length * num b := by
  induction a with
  | nil => simp [num]
  | cons x r ih => simp only [List.cons_append, num, ih, List.length_cons, Nat.pow_succ, Nat.mul_add]; rw [Nat.mul_comm (W64 ^ r.length) W64, Nat.mul_assoc]; omega
theorem num_single (x : Nat) : num [x] = x := by simp [num]
theorem Bd.nil : Bd [] := by simp [Bd]
theorem Bd.cons {x : Nat} {l : List Nat} (h : x < W64) (hl : Bd l) : Bd (x :: l) := by
  intro y hy; rcases List.mem_cons.1 hy with rfl | h'; exact h; exact hl _ h'
theorem Bd.snoc {x : Nat} {l : List Nat} (hl : Bd l) (h : x < W64) : Bd (l ++ [x]) := by
  intro y hy; rcases List.mem_append.1 hy with h' | h'; exact hl _ h'; rw [List.mem_singleton.1 h']; exact h
theorem Bd.take {l : List Nat} (hl : Bd l) (k : Nat) : Bd (l.take k) := fun x hx => hl x (List.mem_of_mem_take hx)
theorem Bd.tail {x : Nat} {l : List Nat} (h : Bd (x :: l)) : Bd l := fun y hy => h y (List.mem_cons_of_mem _ hy)
theorem Bd.head {x : Nat} {l : List Nat} (h : Bd (x :: l)) : x < W64 := h x (List.mem_cons_self ..)
theorem Bd.lat {l : List Nat} (h : Bd l) (i : Nat) : lat l i < W64 := by
  unfold Go.Proofs.YtooonjcpdbbniaaGreatDoor.lat
  by_cases hi : i < l.length
  · rw [List.getElem?_eq_getElem hi]; exact h _ (List.getElem_mem hi)
  · rw [List.getElem?_eq_none (by omega)]; exact W64_pos
theorem lat_ge {l : List Nat} {i : Nat} (h : l.length ≤ i) : lat l i = 0 := by unfold lat; rw [List.getElem?_eq_none h]; rfl

theorem num_lt (l : List Nat) (h : Bd l) : num l < W64 ^ l.length := by
  induction l with
  | nil => simp [num]
  | cons x r ih =>
    have h1 := ih h.tail
    have h2 := h.head
    simp only [num, List.length_cons, Nat.pow_succ]
    have : W64 * num r + W64 ≤ W64 * W64 ^ r.length := by
      have := Nat.mul_le_mul_left W64 (Nat.succ_le_of_lt h1)
      rw [Nat.mul_succ] at this; exact this
    rw [Nat.mul_comm (W64 ^ r.length) W64]; omega

/-- the number of the first k limbs -/
theorem num_take_succ (l : List Nat) (k : Nat) : num (l.take (k + 1)) = num (l.take k) + W64 ^ k * lat l k := by
  by_cases hk : k < l.length
  · rw [List.take_succ_eq_append_getElem hk, num_append, num_single]
    have : (l.take k).length = k := by simp; omega
    rw [this]; simp [lat, hk]
  · rw [lat_ge (by omega), List.take_of_length_le (by omega), List.take_of_length_le (by omega)]; simp

theorem num_take_ge (l : List Nat) (k : Nat) (h : l.length ≤ k) : num (l.take k) = num l := by rw [List.take_of_length_le h]

theorem div_W64_lt {n : Nat} (h : n ≠ 0) : n / W64 < n := Nat.div_lt_self (by omega) (by unfold W64; omega)
/-- limbs, in at most so many steps -/
def limbsF : Nat → Nat → List Nat
  | 0, _ => []
  | f + 1, n => if n = 0 then [] else (n % W64) :: limbsF f (n / W64)
theorem limbsF_eq (f g n : Nat) (hf : n ≤ f) (hg : n ≤ g) : limbsF f n = limbsF g n := by
  induction f generalizing g n with
  | zero =>
    have : n = 0 := by omega
    subst this
    cases g with
    | zero => rfl
    | succ g => rw [limbsF, limbsF, if_pos rfl]
  | succ f ih =>
    cases g with
    | zero =>
      have : n = 0 := by omega
      subst this
      rw [limbsF, limbsF, if_pos rfl]
    | succ g =>
      rw [limbsF, limbsF]
      by_cases h : n = 0
      · rw [if_pos h, if_pos h]
      · have := div_W64_lt h
        rw [if_neg h, if_neg h, ih g _ (by omega) (by omega)]
/-- the limbs of a number, the lowest first -/
def limbs (n : Nat) : List Nat := limbsF n n
theorem limbs_zero : limbs 0 = [] := rfl
theorem limbs_pos {n : Nat} (h : n ≠ 0) : limbs n = (n % W64) :: limbs (n / W64) := by
  have h2 := div_W64_lt h
  obtain ⟨m, rfl⟩ := Nat.exists_eq_succ_of_ne_zero h
  unfold limbs
  rw [limbsF, if_neg h, limbsF_eq m _ _ (by omega) (Nat.le_refl _)]
theorem num_limbs (n : Nat) : num (limbs n) = n := by
  induction n using Nat.strongRecOn with
  | _ n ih =>
    by_cases h : n = 0
    · subst h; rw [limbs_zero]; rfl
    · rw [limbs_pos h, num, ih _ (div_W64_lt h)]; exact Nat.mod_add_div n W64
theorem limbs_bd (n : Nat) : Bd (limbs n) := by
  induction n using Nat.strongRecOn with
  | _ n ih =>
    by_cases h : n = 0
    · subst h; rw [limbs_zero]; exact Bd.nil
    · rw [limbs_pos h]; exact Bd.cons (Nat.mod_lt _ W64_pos) (ih _ (div_W64_lt h))
theorem limbs_nil {n : Nat} : limbs n = [] ↔ n = 0 := by
  constructor
  · intro h; have := num_limbs n; rw [h] at this; exact this.symm
  · rintro rfl; exact limbs_zero
theorem lat_cons_succ (x : Nat) (l : List Nat) (i : Nat) : lat (x :: l) (i + 1) = lat l i := by simp [lat]
theorem limbs_rt (n : Nat) : Rt (limbs n) := by
  induction n using Nat.strongRecOn with
  | _ n ih =>
    by_cases h : n = 0
    · subst h; exact .inl limbs_zero
    · right
      rw [limbs_pos h]
      by_cases h2 : n / W64 = 0
      · rw [h2, limbs_zero]; simp [lat]
        have := (Nat.div_eq_zero_iff_lt W64_pos).1 h2
        rw [Nat.mod_eq_of_lt this]; exact h
      · rcases ih _ (div_W64_lt h) with h3 | h3
        · exact absurd (limbs_nil.1 h3) h2
        · have : (limbs (n / W64)).length ≠ 0 := by
            intro e; exact h2 (limbs_nil.1 (List.eq_nil_of_length_eq_zero e))
          obtain ⟨m, hm⟩ := Nat.exists_eq_succ_of_ne_zero this
          rw [List.length_cons, hm]
          rw [hm] at h3
          simpa [lat_cons_succ] using h3

theorem num_zero_of_rt {l : List Nat} (hr : Rt l) (h : num l = 0) : l = [] := by
  rcases hr with h' | h'
  · exact h'
  · exfalso
    have : l.length ≠ 0 := by intro e; rw [List.eq_nil_of_length_eq_zero e] at h'; simp [lat] at h'
    have e : l.take (l.length - 1 + 1) = l := List.take_of_length_le (by omega)
    have h2 := num_take_succ l (l.length - 1)
    rw [e, h] at h2
    have h3 : 0 < W64 ^ (l.length - 1) * lat l (l.length - 1) := Nat.mul_pos (Nat.pow_pos W64_pos) (Nat.pos_of_ne_zero h')
    omega
theorem Rt.tail {x : Nat} {l : List Nat} (h : Rt (x :: l)) : Rt l := by
  rcases h with h | h
  · cases h
  · by_cases hl : l = []
    · exact .inl hl
    · right
      have : l.length ≠ 0 := by intro e; exact hl (List.eq_nil_of_length_eq_zero e)
      obtain ⟨m, hm⟩ := Nat.exists_eq_succ_of_ne_zero this
      rw [List.length_cons, hm] at h
      rw [hm]
      simpa [lat_cons_succ] using h
theorem limbs_num (l : List Nat) (hb : Bd l) (hr : Rt l) : limbs (num l) = l := by
  induction l with
  | nil => exact limbs_zero
  | cons x r ih =>
    have h0 : num (x :: r) ≠ 0 := fun e => by have := num_zero_of_rt hr e; cases this
    have hx := hb.head
    rw [limbs_pos h0]
    have e1 : num (x :: r) % W64 = x := by rw [num, Nat.add_mul_mod_self_left, Nat.mod_eq_of_lt hx]
    have e2 : num (x :: r) / W64 = num r := by rw [num, Nat.add_mul_div_left _ _ W64_pos, Nat.div_eq_of_lt hx, Nat.zero_add]
    rw [e1, e2, ih hb.tail hr.tail]
theorem num_inj {a b : List Nat} (ha : Bd a) (hb : Bd b) (ra : Rt a) (rb : Rt b) (h : num a = num b) : a = b := by
  rw [← limbs_num a ha ra, ← limbs_num b hb rb, h]

theorem limbs_len_le {n k : Nat} (h : n < W64 ^ k) : (limbs n).length ≤ k := by
  induction k generalizing n with
  | zero => have : n = 0 := by simpa using h
            subst this; simp [limbs_zero]
  | succ k ih =>
    by_cases h0 : n = 0
    · subst h0; simp [limbs_zero]
    · rw [limbs_pos h0, List.length_cons]
      have : n / W64 < W64 ^ k := by rw [Nat.div_lt_iff_lt_mul W64_pos, ← Nat.pow_succ]; exact h
      have := ih this; omega
theorem lt_of_limbs_len {n k : Nat} (h : (limbs n).length ≤ k) : n < W64 ^ k := by
  have := num_lt _ (limbs_bd n)
  rw [num_limbs] at this
  exact Nat.lt_of_lt_of_le this (Nat.pow_le_pow_right W64_pos h)
theorem limbs_len_mono {a b : Nat} (h : a ≤ b) : (limbs a).length ≤ (limbs b).length :=
  limbs_len_le (Nat.lt_of_le_of_lt h (lt_of_limbs_len (Nat.le_refl _)))
theorem le_of_limbs_len {n k : Nat} (h : k < (limbs n).length) : W64 ^ k ≤ n := by
  rcases Nat.lt_or_ge n (W64 ^ k) with h1 | h1
  · have := limbs_len_le h1; omega
  · exact h1
theorem limbs_len_add (a b : Nat) : (limbs (a + b)).length ≤ max (limbs a).length (limbs b).length + 1 := by
  apply limbs_len_le
  have h1 := lt_of_limbs_len (Nat.le_max_left (limbs a).length (limbs b).length)
  have h2 := lt_of_limbs_len (Nat.le_max_right (limbs a).length (limbs b).length)
  rw [Nat.pow_succ]
  have : W64 ^ max (limbs a).length (limbs b).length * 2 ≤ W64 ^ max (limbs a).length (limbs b).length * W64 := Nat.mul_le_mul_left _ (by unfold W64; omega)
  omega
theorem limbs_len_mul (a b : Nat) : (limbs (a * b)).length ≤ (limbs a).length + (limbs b).length := by
  apply limbs_len_le
  rw [Nat.pow_add]
  exact Nat.mul_lt_mul_of_lt_of_le (lt_of_limbs_len (Nat.le_refl _)) (Nat.le_of_lt (lt_of_limbs_len (Nat.le_refl _))) (Nat.pow_pos W64_pos)
theorem limbs_single {x : Nat} (h0 : x ≠ 0) (h : x < W64) : limbs x = [x] := by
  rw [limbs_pos h0, Nat.mod_eq_of_lt h, Nat.div_eq_of_lt h, limbs_zero]
/-- limbs off which noughts were taken -/
theorem limbs_of_take {l : List Nat} {k : Nat} (hb : Bd l) (he : num (l.take k) = num l) (hk : k ≤ l.length) (hr : k = 0 ∨ lat l (k - 1) ≠ 0) : limbs (num l) = l.take k := by
  rw [← he]
  apply limbs_num _ (hb.take k)
  by_cases hk0 : k = 0
  · subst hk0; exact .inl (by simp)
  · right
    have hr := hr.resolve_left hk0
    rw [List.length_take, Nat.min_eq_left hk]
    unfold lat at *
    rw [List.getElem?_take, if_pos (by omega)]; exact hr
theorem num_take_pred {l : List Nat} {k : Nat} (h0 : 0 < k) (h : lat l (k - 1) = 0) : num (l.take (k - 1)) = num (l.take k) := by
  have := num_take_succ l (k - 1)
  rw [h, Nat.mul_zero, Nat.add_zero, Nat.sub_add_cancel h0] at this
  exact this.symm

def cmpI (a b : Int) : Int := if a < b then -1 else if b < a then 1 else 0
theorem cmpI_lt {a b : Int} (h : a < b) : cmpI a b = -1 := by simp [cmpI, h]
theorem cmpI_gt {a b : Int} (h : b < a) : cmpI a b = 1 := by simp [cmpI, h]; omega
theorem cmpI_eq (a : Int) : cmpI a a = 0 := by simp [cmpI]
theorem cmpI_zero {a b : Int} : cmpI a b = 0 ↔ a = b := by unfold cmpI; split <;> (try split) <;> omega
theorem num_split (l : List Nat) (k : Nat) (h : k ≤ l.length) : num l = num (l.take k) + W64 ^ k * num (l.drop k) := by
  have := num_append (l.take k) (l.drop k)
  rw [List.take_append_drop, List.length_take, Nat.min_eq_left h] at this
  exact this
theorem drop_lat (l : List Nat) (k : Nat) (h : k < l.length) : l.drop k = lat l k :: l.drop (k + 1) := by
  rw [List.drop_eq_getElem_cons h]; simp [lat, h]
/-- two rows of limbs that are as long, and agree from place i on -/
theorem num_lt_of_top {a b : List Nat} (ha : Bd a) (_ : Bd b) (i : Nat) (hi : i < a.length) (hl : a.length = b.length) (htop : a.drop (i + 1) = b.drop (i + 1)) (h : lat a i < lat b i) : num a < num b := by
  rw [num_split a i (by omega), num_split b i (by omega), drop_lat a i hi, drop_lat b i (by omega), htop, num, num]
  have h1 := num_lt _ (ha.take i)
  rw [List.length_take, Nat.min_eq_left (by omega)] at h1
  have h2 : W64 ^ i * (lat a i + 1) ≤ W64 ^ i * lat b i := Nat.mul_le_mul_left _ h
  simp only [Nat.mul_add, Nat.mul_one] at *
  omega
theorem num_lt_of_len {a b : List Nat} (ha : Bd a) (rb : Rt b) (h : a.length < b.length) : num a < num b := by
  have h1 := num_lt _ ha
  have h2 : lat b (b.length - 1) ≠ 0 := rb.resolve_left (by intro e; subst e; simp at h)
  have h3 := num_take_succ b (b.length - 1)
  rw [Nat.sub_add_cancel (by omega), List.take_length] at h3
  have h4 : W64 ^ (b.length - 1) * 1 ≤ W64 ^ (b.length - 1) * lat b (b.length - 1) := Nat.mul_le_mul_left _ (by omega)
  have h5 : W64 ^ a.length ≤ W64 ^ (b.length - 1) := Nat.pow_le_pow_right W64_pos (by omega)
  omega
def cmpL (a b : List Nat) : Int := if a.length = b.length then cmpI (num a) (num b) else cmpI a.length b.length
theorem cmpL_limbs (a b : Nat) : cmpL (limbs a) (limbs b) = cmpI a b := by
  unfold cmpL
  rw [num_limbs, num_limbs]
  split
  · rfl
  · rename_i h
    rcases Nat.lt_or_gt_of_ne h with h' | h'
    · have := num_lt_of_len (limbs_bd a) (limbs_rt b) h'
      rw [num_limbs, num_limbs] at this
      rw [cmpI_lt (by omega), cmpI_lt (by omega)]
    · have := num_lt_of_len (limbs_bd b) (limbs_rt a) h'
      rw [num_limbs, num_limbs] at this
      rw [cmpI_gt (by omega), cmpI_gt (by omega)]

/-- binary figures, counted in at most so many steps -/
def blF : Nat → Nat → Nat
  | 0, _ => 0
  | f + 1, n => if n = 0 then 0 else blF f (n / 2) + 1
theorem blF_eq (f g n : Nat) (hf : n ≤ f) (hg : n ≤ g) : blF f n = blF g n := by
  induction f generalizing g n with
  | zero =>
    have : n = 0 := by omega
    subst this
    cases g with
    | zero => rfl
    | succ g => rw [blF, blF, if_pos rfl]
  | succ f ih =>
    cases g with
    | zero =>
      have : n = 0 := by omega
      subst this
      rw [blF, blF, if_pos rfl]
    | succ g =>
      rw [blF, blF]
      by_cases h : n = 0
      · rw [if_pos h, if_pos h]
      · rw [if_neg h, if_neg h, ih g _ (by omega) (by omega)]
/-- how many binary figures a number has -/
def bl (n : Nat) : Nat := blF n n
theorem bl_zero : bl 0 = 0 := rfl
theorem bl_pos {n : Nat} (h : n ≠ 0) : bl n = bl (n / 2) + 1 := by
  obtain ⟨m, rfl⟩ := Nat.exists_eq_succ_of_ne_zero h
  unfold bl
  rw [blF, if_neg h, blF_eq m _ _ (by omega) (Nat.le_refl _)]
theorem lt_bl (n : Nat) : n < 2 ^ bl n := by
  induction n using Nat.strongRecOn with
  | _ n ih =>
    by_cases h : n = 0
    · subst h; simp [bl_zero]
    · rw [bl_pos h, Nat.pow_succ]
      have := ih _ (Nat.div_lt_self (by omega : 0 < n) (by omega : 1 < 2))
      omega
theorem bl_le {n : Nat} (h : n ≠ 0) : 2 ^ (bl n - 1) ≤ n := by
  induction n using Nat.strongRecOn with
  | _ n ih =>
    rw [bl_pos h, Nat.add_sub_cancel]
    by_cases h2 : n / 2 = 0
    · rw [h2, bl_zero]; omega
    · have h3 := ih _ (Nat.div_lt_self (by omega : 0 < n) (by omega : 1 < 2)) h2
      have h4 : bl (n / 2) = bl (n / 2) - 1 + 1 := by rw [bl_pos h2]; omega
      rw [h4, Nat.pow_succ]; omega
theorem bl_eq_zero {n : Nat} : bl n = 0 ↔ n = 0 := by
  constructor
  · intro h; have := lt_bl n; rw [h] at this; omega
  · rintro rfl; exact bl_zero
theorem bl_le_iff {n k : Nat} : bl n ≤ k ↔ n < 2 ^ k := by
  constructor
  · intro h; exact Nat.lt_of_lt_of_le (lt_bl n) (Nat.pow_le_pow_right (by omega) h)
  · intro h
    by_cases h0 : n = 0
    · subst h0; simp [bl_zero]
    · rcases Nat.lt_or_ge k (bl n) with h1 | h1
      · have h2 := bl_le h0
        have h3 : 2 ^ k ≤ 2 ^ (bl n - 1) := Nat.pow_le_pow_right (by omega) (by omega)
        omega
      · exact h1
theorem bl_unique {n b : Nat} (h1 : 2 ^ b ≤ n) (h2 : n < 2 ^ (b + 1)) : bl n = b + 1 := by
  have h3 := bl_le_iff.2 h2
  rcases Nat.lt_or_ge (bl n) (b + 1) with h | h
  · have := bl_le_iff.1 (Nat.le_of_lt_succ h); omega
  · omega
theorem bl_mono {a b : Nat} (h : a ≤ b) : bl a ≤ bl b := bl_le_iff.2 (Nat.lt_of_le_of_lt h (lt_bl b))
theorem W64_pow (k : Nat) : W64 ^ k = 2 ^ (64 * k) := by rw [Nat.pow_mul]; rfl
theorem bl_shift {x r k : Nat} (hx : x ≠ 0) (hr : r < W64 ^ k) : bl (r + W64 ^ k * x) = 64 * k + bl x := by
  obtain ⟨m, hm⟩ := Nat.exists_eq_succ_of_ne_zero (show bl x ≠ 0 from fun e => hx (bl_eq_zero.1 e))
  have h1 := bl_le hx
  have h2 := lt_bl x
  rw [hm] at h1 h2 ⊢
  rw [Nat.succ_sub_one] at h1
  rw [W64_pow] at *
  rw [show 64 * k + m.succ = (64 * k + m) + 1 from rfl]
  refine bl_unique ?_ ?_
  · rw [Nat.pow_add]; have := Nat.mul_le_mul_left (2 ^ (64 * k)) h1; omega
  · rw [Nat.add_assoc, Nat.pow_add]
    have h3 := Nat.mul_le_mul_left (2 ^ (64 * k)) (Nat.succ_le_of_lt h2)
    rw [Nat.mul_succ] at h3
    have : m.succ = m + 1 := rfl
    rw [this] at h3
    omega
theorem bl_num {l : List Nat} (hb : Bd l) (hr : Rt l) (h : l ≠ []) : bl (num l) = 64 * (l.length - 1) + bl (lat l (l.length - 1)) := by
  have h0 : 0 < l.length := List.length_pos_iff.2 h
  have e := num_take_succ l (l.length - 1)
  rw [Nat.sub_add_cancel h0, List.take_length] at e
  rw [e]
  have h1 := num_lt _ (hb.take (l.length - 1))
  rw [List.length_take, Nat.min_eq_left (by omega)] at h1
  exact bl_shift (hr.resolve_left h) h1
end Go.Proofs.YtooonjcpdbbniaaGreatDoor
namespace Go.Proofs.YtooonjcpdbbniaaGreatDoor

/-- a natural number by another one, to the nearest, of two as near the even one -/
def rne (n d : Nat) : Nat := if d < 2 * (n % d) ∨ (2 * (n % d) = d ∧ n / d % 2 = 1) then n / d + 1 else n / d
/-- a size and a side -/
def sided (neg : Bool) (n : Nat) : Int := if neg then -(n : Int) else n
/-- a number that 64 bits hold, else 0; and whether they do (an errno) -/
def fitV (z : Int) : Int := if -9223372036854775808 ≤ z ∧ z ≤ 9223372036854775807 then z else 0
def fitE (z : Int) : Int := if -9223372036854775808 ≤ z ∧ z ≤ 9223372036854775807 then 0 else 2
theorem fit_in {z : Int} (h : -9223372036854775808 ≤ z ∧ z ≤ 9223372036854775807) : fitV z = z ∧ fitE z = 0 := ⟨if_pos h, if_pos h⟩
theorem fit_out {z : Int} (h : ¬ (-9223372036854775808 ≤ z ∧ z ≤ 9223372036854775807)) : fitV z = 0 ∧ fitE z = 2 := ⟨if_neg h, if_neg h⟩
theorem rne_ge (n d : Nat) : n / d ≤ rne n d := by unfold rne; split <;> omega
theorem rne_le (n d : Nat) : rne n d ≤ n / d + 1 := by unfold rne; split <;> omega
theorem sided_big {neg : Bool} {n : Nat} (h : 18446744073709551616 ≤ n) : ¬ (-9223372036854775808 ≤ sided neg n ∧ sided neg n ≤ 9223372036854775807) := by
  unfold sided; cases neg <;> simp <;> omega
/-- a product in a fixed point, before it is fitted -/
def mulZ (a b : Int) (f : Nat) : Int := sided (decide (a < 0) != decide (b < 0)) (rne (a.natAbs * b.natAbs) (2 ^ f))
/-- does it fit? -/
def fitB (z : Int) : Bool := decide (-9223372036854775808 ≤ z ∧ z ≤ 9223372036854775807)
theorem fitE_eq (z : Int) : fitE z = if fitB z then 0 else 2 := by unfold fitE fitB; simp
theorem fitV_in (z : Int) : -9223372036854775808 ≤ fitV z ∧ fitV z ≤ 9223372036854775807 := by unfold fitV; split <;> omega
/-- the first error is kept -/
def joinE (e x : Int) : Int := if e = 0 then x else e
theorem joinE_assoc (e x y : Int) : joinE (joinE e x) y = joinE e (joinE x y) := by unfold joinE; split <;> simp_all
/-- momentum's step: what is added to a velocity, the velocity, what a weight goes by, the weight, the error -/
def stD (wd : Int) (f : Nat) (w g : Int) : Int := fitV (g + fitV (mulZ wd w f))
def stV (mu : Int) (f : Nat) (v d : Int) : Int := fitV (fitV (mulZ mu v f) + d)
def stU (nest : Bool) (mu : Int) (f : Nat) (d vel : Int) : Int := if nest then fitV (d + fitV (mulZ mu vel f)) else vel
def stW (lr : Int) (f : Nat) (w u : Int) : Int := fitV (w - fitV (mulZ lr u f))
def stE (lr mu wd : Int) (nest : Bool) (f : Nat) (w v g : Int) : Int :=
  let d := stD wd f w g; let vel := stV mu f v d; let u := stU nest mu f d vel
  joinE (fitE (mulZ wd w f)) (joinE (fitE (g + fitV (mulZ wd w f))) (joinE (fitE (mulZ mu v f)) (joinE (fitE (fitV (mulZ mu v f) + d))
    (joinE (if nest then joinE (fitE (mulZ mu vel f)) (fitE (d + fitV (mulZ mu vel f))) else 0) (joinE (fitE (mulZ lr u f)) (fitE (w - fitV (mulZ lr u f))))))))
end Go.Proofs.YtooonjcpdbbniaaGreatDoor
namespace Go.Proofs.YtooonjcpdbbniaaGreatDoor

theorem W32_ex : ∃ n : Nat, n = 4294967296 := ⟨_, rfl⟩
/-- 2 to the power of 32, under a name that nothing unfolds -/
noncomputable def W32 : Nat := Classical.choose W32_ex
theorem W32_eq : W32 = 4294967296 := Classical.choose_spec W32_ex

theorem q_ok {u v1 v0 n q r y : Nat} (hy : y = v1 * W32 + v0) (hq : q * v1 + r = u) (hc : q * v0 ≤ W32 * r + n) : q * y ≤ u * W32 + n := by
  subst hy; subst hq; simp only [W32_eq] at *; grind
theorem q_big {u v1 v0 n q r y : Nat} (hy : y = v1 * W32 + v0) (hq : q * v1 + r = u) (hc : W32 * r + n < q * v0) : u * W32 + n < q * y := by
  subst hy; subst hq; simp only [W32_eq] at *; grind
theorem q_huge {u n q y : Nat} (hu : u < y) (hn : n < W32) (hc : W32 ≤ q) : u * W32 + n < q * y := by
  have h1 : W32 * y ≤ q * y := Nat.mul_le_mul_right _ hc
  have h2 : (u + 1) * W32 ≤ y * W32 := Nat.mul_le_mul_right _ hu
  simp only [W32_eq] at *; omega
theorem q_break {v0 n q r : Nat} (hr : W32 ≤ r) (hq : q ≤ W32) (hv : v0 < W32) : q * v0 ≤ W32 * r + n := by
  have h1 : q * v0 ≤ W32 * v0 := Nat.mul_le_mul_right _ hq
  have h2 : W32 * W32 ≤ W32 * r := Nat.mul_le_mul_left _ hr
  simp only [W32_eq] at *; omega
/-- the first guess is no less, and at most one more than a figure -/
theorem q_first {u v1 v0 n y : Nat} (hy : y = v1 * W32 + v0) (h1 : 2147483648 ≤ v1) (hv : v0 < W32) (hu : u < y) (hn : n < W32) :
    u / v1 ≤ W32 + 1 ∧ u / v1 * v1 + u % v1 = u ∧ u * W32 + n < (u / v1 + 1) * y := by
  have hp : 0 < v1 := by omega
  have hd := Nat.div_add_mod u v1
  have hm := Nat.mod_lt u hp
  have hc : u / v1 * v1 + u % v1 = u := by rw [Nat.mul_comm]; exact hd
  refine ⟨?_, hc, ?_⟩
  · have : u / v1 < W32 + 2 := by
      rw [Nat.div_lt_iff_lt_mul hp]
      simp only [W32_eq] at *; omega
    omega
  · have h2 : u + 1 ≤ (u / v1 + 1) * v1 := by rw [Nat.add_mul]; omega
    have h3 : (u + 1) * W32 ≤ (u / v1 + 1) * v1 * W32 := Nat.mul_le_mul_right _ h2
    have h4 : (u / v1 + 1) * y = (u / v1 + 1) * v1 * W32 + (u / v1 + 1) * v0 := by rw [hy, Nat.mul_add, Nat.mul_assoc]
    rw [h4]
    rw [Nat.add_mul, Nat.one_mul] at h3
    omega
theorem q_down {q v1 r u : Nat} (h : q * v1 + r = u) (hq : 0 < q) : (q - 1) * v1 + (r + v1) = u := by
  obtain ⟨p, rfl⟩ : ∃ p, q = p + 1 := ⟨q - 1, by omega⟩
  rw [Nat.add_mul, Nat.one_mul] at h
  simp only [Nat.add_sub_cancel]
  omega
/-- the figure that was found -/
theorem q_is {a q y : Nat} (h1 : q * y ≤ a) (h2 : a < (q + 1) * y) : q = a / y := by
  have hy : 0 < y := by
    rcases Nat.eq_zero_or_pos y with h | h
    · subst h; omega
    · exact h
  exact (Nat.div_eq_of_lt_le h1 h2).symm
theorem q_lt {u n y : Nat} (hu : u < y) (hn : n < W32) : (u * W32 + n) / y < W32 := by
  have hy : 0 < y := by omega
  rw [Nat.div_lt_iff_lt_mul hy]
  have h2 : (u + 1) * W32 ≤ y * W32 := Nat.mul_le_mul_right _ hu
  rw [Nat.mul_comm W32 y]
  simp only [W32_eq] at *; omega
/-- what is left, reckoned round 2 to the power of 64 -/
theorem rem_wrap {a q y : Nat} (hq : q = a / y) (hy : 0 < y) (hy2 : y ≤ W64) : ((a % W64 + W64 - (q * y) % W64) % W64) = a % y := by
  have h := Nat.div_add_mod a y
  rw [← hq, Nat.mul_comm] at h
  have hm := Nat.mod_lt a hy
  unfold W64 at *
  omega
end Go.Proofs.YtooonjcpdbbniaaGreatDoor
namespace Go.Proofs.YtooonjcpdbbniaaGreatDoor
theorem lat_set (l : List Nat) (i j v : Nat) : lat (l.set i v) j = if i = j ∧ i < l.length then v else lat l j := by
  unfold lat
  rw [List.getElem?_set]
  by_cases h : i = j
  · subst h
    by_cases h2 : i < l.length
    · simp [h2]
    · simp [h2]
  · simp [h]
theorem Bd.set {l : List Nat} (h : Bd l) (i : Nat) {v : Nat} (hv : v < W64) : Bd (l.set i v) := by
  intro x hx
  rcases List.mem_or_eq_of_mem_set hx with h' | h'
  · exact h x h'
  · rw [h']; exact hv
theorem num_set (l : List Nat) (i v : Nat) (h : i < l.length) : num (l.set i v) + W64 ^ i * lat l i = num l + W64 ^ i * v := by
  have e1 := num_split l i (by omega)
  have e2 := num_split (l.set i v) i (by simp; omega)
  rw [drop_lat l i h, num] at e1
  rw [drop_lat (l.set i v) i (by simp; omega), num, lat_set, if_pos ⟨rfl, h⟩, List.take_set_of_le (Nat.le_refl _), List.drop_set_of_lt (by omega)] at e2
  rw [e1, e2]
  simp only [Nat.mul_add]
  omega
/-- a row of noughts -/
def zeros (n : Nat) : List Nat := List.replicate n 0
theorem zeros_len (n : Nat) : (zeros n).length = n := by simp [zeros]
theorem num_replicate (n : Nat) : num (List.replicate n 0) = 0 := by
  induction n with
  | zero => rfl
  | succ n ih => rw [List.replicate_succ, num, ih]; simp
theorem lat_replicate (n j : Nat) : lat (List.replicate n 0) j = 0 := by
  unfold lat; rw [List.getElem?_replicate]; split <;> rfl
theorem Bd.replicate (n : Nat) : Bd (List.replicate n 0) := fun x hx => by rw [List.eq_of_mem_replicate hx]; exact W64_pos

theorem num_zeros (n : Nat) : num (zeros n) = 0 := num_replicate n
theorem lat_zeros (n j : Nat) : lat (zeros n) j = 0 := lat_replicate n j
theorem Bd.zeros (n : Nat) : Bd (zeros n) := Bd.replicate n
/-- one step of a row of a product -/
theorem mul_digit {x y o c lo hi s1 c1 h1 s2 c2 r : Nat} (hx : x < W64) (hy : y < W64) (ho : o < W64) (hc : c < W64) (e1 : hi = x * y / W64) (e2 : lo = x * y % W64) (e3 : s1 = (lo + o) % W64) (e4 : c1 = (lo + o) / W64)
    (e5 : h1 = hi + c1) (e6 : s2 = (s1 + c) % W64) (e7 : c2 = (s1 + c) / W64) (e8 : r = h1 + c2) : s2 + W64 * r = x * y + o + c ∧ r < W64 ∧ h1 < W64 ∧ s2 < W64 ∧ c1 ≤ 1 ∧ c2 ≤ 1 := by
  have d1 := Nat.mod_add_div (x * y) W64
  have d2 := Nat.mod_add_div (lo + o) W64
  have d3 := Nat.mod_add_div (s1 + c) W64
  rw [← e1, ← e2] at d1
  rw [← e3, ← e4] at d2
  rw [← e6, ← e7] at d3
  have hs2 : s2 < W64 := e6 ▸ Nat.mod_lt _ W64_pos
  have total : s2 + W64 * r = x * y + o + c := by rw [e8, e5]; simp only [Nat.mul_add]; omega
  have hp : x * y ≤ (W64 - 1) * (W64 - 1) := Nat.mul_le_mul (by omega) (by omega)
  have hp2 : (W64 - 1) * (W64 - 1) + 2 * (W64 - 1) + 1 = W64 * W64 := by unfold W64; rfl
  have hr : r < W64 := by
    rcases Nat.lt_or_ge r W64 with h | h
    · exact h
    · have := Nat.mul_le_mul_left W64 h; omega
  have hlo : lo < W64 := e2 ▸ Nat.mod_lt _ W64_pos
  have hs1 : s1 < W64 := e3 ▸ Nat.mod_lt _ W64_pos
  refine ⟨total, hr, by omega, hs2, ?_, ?_⟩
  · rw [e4]; have := Nat.div_lt_of_lt_mul (m := lo + o) (n := W64) (k := 2) (by omega); omega
  · rw [e7]; have := Nat.div_lt_of_lt_mul (m := s1 + c) (n := W64) (k := 2) (by omega); omega

/-- what a row of a product keeps, a limb on -/
theorem mul_inner {l b : List Nat} {i k N x c o s2 r : Nat} (hl : i + k < l.length) (ho : o = lat l (i + k)) (hinv : num l + W64 ^ (i + k) * c = N + W64 ^ i * (x * num (b.take k))) (hd : s2 + W64 * r = x * lat b k + o + c) :
    num (l.set (i + k) s2) + W64 ^ (i + k + 1) * r = N + W64 ^ i * (x * num (b.take (k + 1))) := by
  have e1 := num_set l (i + k) s2 hl
  rw [← ho] at e1
  rw [num_take_succ, Nat.mul_add x, Nat.mul_add (W64 ^ i), ← Nat.add_assoc, ← hinv, Nat.pow_succ]
  have e2 := congrArg (W64 ^ (i + k) * ·) hd
  simp only [Nat.mul_add] at e2
  have e3 : W64 ^ i * (x * (W64 ^ k * lat b k)) = W64 ^ (i + k) * (x * lat b k) := by
    rw [Nat.pow_add, Nat.mul_left_comm x, Nat.mul_assoc]
  have e4 : W64 ^ (i + k) * W64 * r = W64 ^ (i + k) * (W64 * r) := by rw [Nat.mul_assoc]
  rw [e3, e4]
  omega
theorem mul_outer {l a b : List Nat} {i c : Nat} (hl : i + b.length < l.length) (h0 : lat l (i + b.length) = 0) (hinv : num l + W64 ^ (i + b.length) * c = num (a.take i) * num b + W64 ^ i * (lat a i * num b)) :
    num (l.set (i + b.length) c) = num (a.take (i + 1)) * num b := by
  have e1 := num_set l (i + b.length) c hl
  rw [h0] at e1
  rw [num_take_succ, Nat.add_mul, Nat.mul_assoc, ← hinv]
  omega
end Go.Proofs.YtooonjcpdbbniaaGreatDoor
namespace Go.Proofs.YtooonjcpdbbniaaGreatDoor
/-- 2 to the power of 32 -/
def H32 : Nat := 4294967296
theorem H32_pos : 0 < H32 := by unfold H32; omega
theorem two_le_H32 : 2 ≤ H32 := by unfold H32; omega
theorem W64_H32 : W64 = H32 * H32 := by unfold W64 H32; rfl
/-- the number of figures of 32 bits -/
def nuh : List Nat → Nat
  | [] => 0
  | x :: r => x + H32 * nuh r
def Bh (l : List Nat) : Prop := ∀ x ∈ l, x < H32
theorem Bh.bd {l : List Nat} (h : Bh l) : Bd l := fun x hx => by have := h x hx; unfold H32 at this; unfold W64; omega
theorem Bh.nil : Bh [] := by simp [Bh]
theorem Bh.snoc {x : Nat} {l : List Nat} (hl : Bh l) (h : x < H32) : Bh (l ++ [x]) := by
  intro y hy; rcases List.mem_append.1 hy with h' | h'; exact hl _ h'; rw [List.mem_singleton.1 h']; exact h
theorem Bh.lat {l : List Nat} (h : Bh l) (i : Nat) : lat l i < H32 := by
  unfold Go.Proofs.YtooonjcpdbbniaaGreatDoor.lat
  by_cases hi : i < l.length
  · rw [List.getElem?_eq_getElem hi]; exact h _ (List.getElem_mem hi)
  · rw [List.getElem?_eq_none (by omega)]; exact H32_pos
theorem Bh.set {l : List Nat} (h : Bh l) (i : Nat) {v : Nat} (hv : v < H32) : Bh (l.set i v) := by
  intro x hx
  rcases List.mem_or_eq_of_mem_set hx with h' | h'
  · exact h x h'
  · rw [h']; exact hv
theorem Bh.zeros (n : Nat) : Bh (zeros n) := fun x hx => by rw [List.eq_of_mem_replicate hx]; exact H32_pos
theorem Bh.tail {x : Nat} {l : List Nat} (h : Bh (x :: l)) : Bh l := fun y hy => h y (List.mem_cons_of_mem _ hy)
theorem nuh_append (a b : List Nat) : nuh (a ++ b) = nuh a + H32 ^ a.length * nuh b := by
  induction a with
  | nil => simp [nuh]
  | cons x r ih => simp only [List.cons_append, nuh, ih, List.length_cons, Nat.pow_succ, Nat.mul_add]; rw [Nat.mul_comm (H32 ^ r.length) H32, Nat.mul_assoc]; omega
theorem nuh_single (x : Nat) : nuh [x] = x := by simp [nuh]
theorem nuh_take_succ (l : List Nat) (k : Nat) : nuh (l.take (k + 1)) = nuh (l.take k) + H32 ^ k * lat l k := by
  by_cases hk : k < l.length
  · rw [List.take_succ_eq_append_getElem hk, nuh_append, nuh_single]
    have : (l.take k).length = k := by simp; omega
    rw [this]; simp [lat, hk]
  · rw [lat_ge (by omega), List.take_of_length_le (by omega), List.take_of_length_le (by omega)]; simp
theorem nuh_take_ge (l : List Nat) (k : Nat) (h : l.length ≤ k) : nuh (l.take k) = nuh l := by rw [List.take_of_length_le h]
theorem nuh_lt (l : List Nat) (h : Bh l) : nuh l < H32 ^ l.length := by
  induction l with
  | nil => simp [nuh]
  | cons x r ih =>
    have h1 := ih h.tail
    have h2 := h x (List.mem_cons_self ..)
    simp only [nuh, List.length_cons, Nat.pow_succ]
    have : H32 * nuh r + H32 ≤ H32 * H32 ^ r.length := by
      have := Nat.mul_le_mul_left H32 (Nat.succ_le_of_lt h1)
      rw [Nat.mul_succ] at this; exact this
    rw [Nat.mul_comm (H32 ^ r.length) H32]; omega
theorem nuh_split (l : List Nat) (k : Nat) (h : k ≤ l.length) : nuh l = nuh (l.take k) + H32 ^ k * nuh (l.drop k) := by
  have := nuh_append (l.take k) (l.drop k)
  rw [List.take_append_drop, List.length_take, Nat.min_eq_left h] at this
  exact this
theorem nuh_set (l : List Nat) (i v : Nat) (h : i < l.length) : nuh (l.set i v) + H32 ^ i * lat l i = nuh l + H32 ^ i * v := by
  have e1 := nuh_split l i (by omega)
  have e2 := nuh_split (l.set i v) i (by simp; omega)
  rw [drop_lat l i h, nuh] at e1
  rw [drop_lat (l.set i v) i (by simp; omega), nuh, lat_set, if_pos ⟨rfl, h⟩, List.take_set_of_le (Nat.le_refl _), List.drop_set_of_lt (by omega)] at e2
  rw [e1, e2]
  simp only [Nat.mul_add]
  omega
theorem nuh_zeros (n : Nat) : nuh (zeros n) = 0 := by
  unfold zeros
  induction n with
  | zero => rfl
  | succ n ih => rw [List.replicate_succ, nuh, ih]; simp

/-- limbs as figures of 32 bits -/
def hv : List Nat → List Nat
  | [] => []
  | x :: r => x % H32 :: x / H32 :: hv r
theorem hv_len (l : List Nat) : (hv l).length = 2 * l.length := by
  induction l with
  | nil => rfl
  | cons x r ih => simp only [hv, List.length_cons, ih]; omega
theorem hv_snoc (l : List Nat) (x : Nat) : hv (l ++ [x]) = hv l ++ [x % H32, x / H32] := by
  induction l with
  | nil => rfl
  | cons y r ih => simp [hv, ih]
theorem hv_take_succ (l : List Nat) (k : Nat) (h : k < l.length) : hv (l.take (k + 1)) = hv (l.take k) ++ [lat l k % H32, lat l k / H32] := by
  rw [List.take_succ_eq_append_getElem h, hv_snoc]; simp [lat, h]
theorem hv_bh (l : List Nat) (h : Bd l) : Bh (hv l) := by
  induction l with
  | nil => exact Bh.nil
  | cons x r ih =>
    intro y hy
    simp only [hv, List.mem_cons] at hy
    rcases hy with rfl | rfl | hy
    · exact Nat.mod_lt _ H32_pos
    · rw [Nat.div_lt_iff_lt_mul H32_pos, ← W64_H32]; exact h.head
    · exact ih h.tail y hy
theorem nuh_hv (l : List Nat) : nuh (hv l) = num l := by
  induction l with
  | nil => rfl
  | cons x r ih =>
    simp only [hv, nuh, num, ih]
    have := Nat.mod_add_div x H32
    rw [W64_H32, Nat.mul_add, ← Nat.mul_assoc]; omega

/-- figures of 32 bits as limbs, the first 2 k of them -/
def wh (l : List Nat) : Nat → List Nat
  | 0 => []
  | k + 1 => wh l k ++ [lat l (2 * k) + lat l (2 * k + 1) * H32]
theorem wh_len (l : List Nat) (k : Nat) : (wh l k).length = k := by
  induction k with
  | zero => rfl
  | succ k ih => simp [wh, ih]
theorem wh_bd (l : List Nat) (h : Bh l) (k : Nat) : Bd (wh l k) := by
  induction k with
  | zero => exact Bd.nil
  | succ k ih =>
    refine ih.snoc ?_
    have h1 := h.lat (2 * k)
    have h2 := h.lat (2 * k + 1)
    rw [W64_H32]
    have : (lat l (2 * k + 1) + 1) * H32 ≤ H32 * H32 := Nat.mul_le_mul_right _ h2
    rw [Nat.add_mul, Nat.one_mul] at this; omega
theorem num_wh (l : List Nat) (k : Nat) : num (wh l k) = nuh (l.take (2 * k)) := by
  induction k with
  | zero => simp [wh, num, nuh]
  | succ k ih =>
    rw [wh, num_append, num_single, wh_len, ih, show 2 * (k + 1) = 2 * k + 1 + 1 from by omega, nuh_take_succ, nuh_take_succ]
    rw [W64_H32, Nat.pow_succ, Nat.pow_mul, Nat.pow_two, Nat.mul_add, Nat.mul_comm (lat l (2 * k + 1)) H32, ← Nat.mul_assoc, Nat.add_assoc]

/-- sums, figure by figure -/
def haddF (s : List Nat × Nat) (p : Nat × Nat) : List Nat × Nat := (s.1 ++ [(p.1 + p.2 + s.2) % H32], (p.1 + p.2 + s.2) / H32)
def haddTo (a b : List Nat) : Nat → List Nat × Nat
  | 0 => ([], 0)
  | k + 1 => haddF (haddTo a b k) (lat a k, lat b k)
theorem haddTo_ok (a b : List Nat) (ha : Bh a) (hb : Bh b) (k : Nat) : nuh (haddTo a b k).1 + H32 ^ k * (haddTo a b k).2 = nuh (a.take k) + nuh (b.take k) ∧ (haddTo a b k).1.length = k ∧ (haddTo a b k).2 ≤ 1 ∧ Bh (haddTo a b k).1 := by
  induction k with
  | zero => simp [haddTo, nuh, Bh.nil]
  | succ k ih =>
    obtain ⟨h1, h2, h3, h4⟩ := ih
    simp only [haddTo, haddF]
    generalize haddTo a b k = s at *
    have hx := ha.lat k
    have hy := hb.lat k
    refine ⟨?_, by simp [h2], ?_, h4.snoc (Nat.mod_lt _ H32_pos)⟩
    · rw [nuh_append, nuh_single, h2, nuh_take_succ, nuh_take_succ, Nat.pow_succ]
      have := Nat.mod_add_div (lat a k + lat b k + s.2) H32
      have e : H32 ^ k * ((lat a k + lat b k + s.2) % H32) + H32 ^ k * H32 * ((lat a k + lat b k + s.2) / H32) = H32 ^ k * (lat a k + lat b k + s.2) := by
        rw [Nat.mul_assoc, ← Nat.mul_add, this]
      simp only [Nat.mul_add] at *
      omega
    · have := Nat.div_lt_of_lt_mul (m := lat a k + lat b k + s.2) (n := H32) (k := 2) (by omega)
      omega
theorem carry_core {P H n a b : Nat} (h2 : 2 ≤ H) (la : a < P) (lb : b < P) (h1 : n + P * H = a + b) : False := by
  have : P * 2 ≤ P * H := Nat.mul_le_mul_left _ h2
  omega
theorem haddTo_end (a b : List Nat) (ha : Bh a) (hb : Bh b) : nuh (haddTo a b (max a.length b.length + 1)).1 = nuh a + nuh b := by
  obtain ⟨h1, h2, h3, h4⟩ := haddTo_ok a b ha hb (max a.length b.length + 1)
  rw [nuh_take_ge _ _ (by omega), nuh_take_ge _ _ (by omega)] at h1
  have la := nuh_lt a ha
  have lb := nuh_lt b hb
  have pa : H32 ^ a.length ≤ H32 ^ max a.length b.length := Nat.pow_le_pow_right H32_pos (by omega)
  have pb : H32 ^ b.length ≤ H32 ^ max a.length b.length := Nat.pow_le_pow_right H32_pos (by omega)
  generalize haddTo a b (max a.length b.length + 1) = s at *
  generalize max a.length b.length = m at *
  clear h2 h4
  obtain ⟨s1, s2⟩ := s
  dsimp only at *
  have hs : s2 = 0 ∨ s2 = 1 := by omega
  rcases hs with e | e
  · rw [e, Nat.mul_zero] at h1; exact h1
  · exfalso
    rw [e, Nat.pow_succ, Nat.mul_one] at h1
    exact carry_core two_le_H32 (Nat.lt_of_lt_of_le la pa) (Nat.lt_of_lt_of_le lb pb) h1

/-- differences, figure by figure -/
def hsubF (s : List Nat × Nat) (p : Nat × Nat) : List Nat × Nat := (s.1 ++ [(H32 + p.1 - p.2 - s.2) % H32], 1 - (H32 + p.1 - p.2 - s.2) / H32)
def hsubTo (a b : List Nat) : Nat → List Nat × Nat
  | 0 => ([], 0)
  | k + 1 => hsubF (hsubTo a b k) (lat a k, lat b k)
theorem hsubTo_ok (a b : List Nat) (ha : Bh a) (hb : Bh b) (k : Nat) : nuh (hsubTo a b k).1 + nuh (b.take k) = nuh (a.take k) + H32 ^ k * (hsubTo a b k).2 ∧ (hsubTo a b k).1.length = k ∧ (hsubTo a b k).2 ≤ 1 ∧ Bh (hsubTo a b k).1 := by
  induction k with
  | zero => simp [hsubTo, nuh, Bh.nil]
  | succ k ih =>
    obtain ⟨h1, h2, h3, h4⟩ := ih
    simp only [hsubTo, hsubF]
    generalize hsubTo a b k = s at *
    have hx := ha.lat k
    have hy := hb.lat k
    refine ⟨?_, by simp [h2], Nat.sub_le _ _, h4.snoc (Nat.mod_lt _ H32_pos)⟩
    rw [nuh_append, nuh_single, h2, nuh_take_succ, nuh_take_succ, Nat.pow_succ]
    generalize lat a k = x at *
    generalize lat b k = y at *
    have key : (H32 + x - y - s.2) % H32 + y + s.2 = x + H32 * (1 - (H32 + x - y - s.2) / H32) := by
      by_cases h : x < y + s.2
      · rw [Nat.mod_eq_of_lt (by omega), Nat.div_eq_of_lt (by omega)]; omega
      · have e : H32 + x - y - s.2 = (x - y - s.2) + H32 := by omega
        rw [e, Nat.add_mod_right, Nat.mod_eq_of_lt (by omega), Nat.add_div_right _ H32_pos, Nat.div_eq_of_lt (by omega)]; omega
    have e := congrArg (H32 ^ k * ·) key
    simp only [Nat.mul_add, ← Nat.mul_assoc] at e
    omega
theorem hsubTo_end (a b : List Nat) (ha : Bh a) (hb : Bh b) (hl : b.length ≤ a.length) (hle : nuh b ≤ nuh a) : nuh (hsubTo a b a.length).1 = nuh a - nuh b := by
  obtain ⟨h1, h2, h3, h4⟩ := hsubTo_ok a b ha hb a.length
  rw [nuh_take_ge _ _ (by omega), nuh_take_ge _ _ (by omega)] at h1
  have h5 := nuh_lt _ h4
  rw [h2] at h5
  have : (hsubTo a b a.length).2 = 0 ∨ (hsubTo a b a.length).2 = 1 := by omega
  rcases this with e | e
  · rw [e, Nat.mul_zero] at h1; omega
  · rw [e, Nat.mul_one] at h1; omega

/-- one step of a row of a product -/
theorem hmul_digit {x y o c n : Nat} (hx : x < H32) (hy : y < H32) (ho : o < H32) (hc : c < H32) (e : n = o + x * y + c) : n < W64 ∧ n % H32 + H32 * (n / H32) = x * y + o + c ∧ n / H32 < H32 ∧ o + x * y < W64 := by
  have hp : x * y ≤ (H32 - 1) * (H32 - 1) := Nat.mul_le_mul (by omega) (by omega)
  have hp2 : (H32 - 1) * (H32 - 1) + 2 * (H32 - 1) + 1 = H32 * H32 := by unfold H32; rfl
  refine ⟨by rw [W64_H32]; omega, by rw [Nat.mod_add_div, e]; omega, ?_, by rw [W64_H32]; omega⟩
  rw [Nat.div_lt_iff_lt_mul H32_pos]; omega
theorem hmul_inner {l b : List Nat} {i k N x c o s2 r : Nat} (hl : i + k < l.length) (ho : o = lat l (i + k)) (hinv : nuh l + H32 ^ (i + k) * c = N + H32 ^ i * (x * nuh (b.take k))) (hd : s2 + H32 * r = x * lat b k + o + c) :
    nuh (l.set (i + k) s2) + H32 ^ (i + k + 1) * r = N + H32 ^ i * (x * nuh (b.take (k + 1))) := by
  have e1 := nuh_set l (i + k) s2 hl
  rw [← ho] at e1
  rw [nuh_take_succ, Nat.mul_add x, Nat.mul_add (H32 ^ i), ← Nat.add_assoc, ← hinv, Nat.pow_succ]
  have e2 := congrArg (H32 ^ (i + k) * ·) hd
  simp only [Nat.mul_add] at e2
  have e3 : H32 ^ i * (x * (H32 ^ k * lat b k)) = H32 ^ (i + k) * (x * lat b k) := by
    rw [Nat.pow_add, Nat.mul_left_comm x, Nat.mul_assoc]
  have e4 : H32 ^ (i + k) * H32 * r = H32 ^ (i + k) * (H32 * r) := by rw [Nat.mul_assoc]
  rw [e3, e4]
  omega
theorem hmul_outer {l a b : List Nat} {i c : Nat} (hl : i + b.length < l.length) (h0 : lat l (i + b.length) = 0) (hinv : nuh l + H32 ^ (i + b.length) * c = nuh (a.take i) * nuh b + H32 ^ i * (lat a i * nuh b)) :
    nuh (l.set (i + b.length) c) = nuh (a.take (i + 1)) * nuh b := by
  have e1 := nuh_set l (i + b.length) c hl
  rw [h0] at e1
  rw [nuh_take_succ, Nat.add_mul, Nat.mul_assoc, ← hinv]
  omega
end Go.Proofs.YtooonjcpdbbniaaGreatDoor
