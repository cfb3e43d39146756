/- Plain facts on limbs: the number that they stand for, and the limbs of a number. No program in sight, no conditions beyond those of each lemma. -/
namespace Go.Proofs.Ytbnnonmkkkhepaa

/-- 2 to the power of 64 -/
def W64 : Nat := 18446744073709551616
theorem W64_pos : 0 < W64 := by unfold W64; omega
theorem W64_eq : W64 = 18446744073709551616 := rfl

def num : List Nat → Nat
  | [] => 0
  | x :: r => x + W64 * num r
def Bd (l : List Nat) : Prop := ∀ x ∈ l, x < W64
/-- the limb at a place, nought behind the last -/
def lat (l : List Nat) (i : Nat) : Nat := l[i]?.getD 0
/-- 'right': no nought at the end -/
def Rt (l : List Nat) : Prop := l = [] ∨ lat l (l.length - 1) ≠ 0

theorem num_append (a b : List Nat) : num (a ++ b) = num a + W64 ^ a.length * num b := by
  induction a with
  | nil => simp [num]
  | cons x r ih => simp only [List.cons_append, num, ih, List.length_cons, Nat.pow_succ, Nat.mul_add]; rw [Nat.mul_comm (W64 ^ r.length) W64, Nat.mul_assoc]; omega
theorem num_single (x : Nat) : num [x] = x := by simp [num]
theorem Bd.nil : Bd [] := by simp [Bd]
theorem Bd.cons {x : Nat} {l : List Nat} (h : x < W64) (hl : Bd l) : Bd (x :: l) := by
  intro y hy; rcases List.mem_cons.1 hy with rfl | h'; exact h; exact hl _ h'
theorem Bd.snoc {x : Nat} {l : List Nat} (hl : Bd l) (h : x < W64) : Bd (l ++ [x]) := by
  intro y hy; rcases List.mem_append.1 hy with h' | h'; exact hl _ h'; rw [List.mem_singleton.1 h']; exact h
theorem Bd.take {l : List Nat} (hl : Bd l) (k : Nat) : Bd (l.take k) := fun x hx => hl x (List.mem_of_mem_take hx)
theorem Bd.tail {x : Nat} {l : List Nat} (h : Bd (x :: l)) : Bd l := fun y hy => h y (List.mem_cons_of_mem _ hy)
theorem Bd.head {x : Nat} {l : List Nat} (h : Bd (x :: l)) : x < W64 := h x (List.mem_cons_self ..)
theorem Bd.lat {l : List Nat} (h : Bd l) (i : Nat) : lat l i < W64 := by
  unfold Go.Proofs.Ytbnnonmkkkhepaa.lat
  by_cases hi : i < l.length
  · rw [List.getElem?_eq_getElem hi]; exact h _ (List.getElem_mem hi)
  · rw [List.getElem?_eq_none (by omega)]; exact W64_pos
theorem lat_ge {l : List Nat} {i : Nat} (h : l.length ≤ i) : lat l i = 0 := by unfold lat; rw [List.getElem?_eq_none h]; rfl

theorem num_lt (l : List Nat) (h : Bd l) : num l < W64 ^ l.length := by
  induction l with
  | nil => simp [num]
  | cons x r ih =>
    have h1 := ih h.tail
    have h2 := h.head
    simp only [num, List.length_cons, Nat.pow_succ]
    have : W64 * num r + W64 ≤ W64 * W64 ^ r.length := by
      have := Nat.mul_le_mul_left W64 (Nat.succ_le_of_lt h1)
      rw [Nat.mul_succ] at this; exact this
    rw [Nat.mul_comm (W64 ^ r.length) W64]; omega

/-- the number of the first k limbs -/
theorem num_take_succ (l : List Nat) (k : Nat) : num (l.take (k + 1)) = num (l.take k) + W64 ^ k * lat l k := by
  by_cases hk : k < l.length
  · rw [List.take_succ_eq_append_getElem hk, num_append, num_single]
    have : (l.take k).length = k := by simp; omega
    rw [this]; simp [lat, hk]
  · rw [lat_ge (by omega), List.take_of_length_le (by omega), List.take_of_length_le (by omega)]; simp

theorem num_take_ge (l : List Nat) (k : Nat) (h : l.length ≤ k) : num (l.take k) = num l := by rw [List.take_of_length_le h]

theorem div_W64_lt {n : Nat} (h : n ≠ 0) : n / W64 < n := Nat.div_lt_self (by omega) (by unfold W64; omega)
/-- limbs, in at most so many steps -/
def limbsF : Nat → Nat → List Nat
  | 0, _ => []
  | f + 1, n => if n = 0 then [] else (n % W64) :: limbsF f (n / W64)
theorem limbsF_eq (f g n : Nat) (hf : n ≤ f) (hg : n ≤ g) : limbsF f n = limbsF g n := by
  induction f generalizing g n with
  | zero =>
    have : n = 0 := by omega
    subst this
    cases g with
    | zero => rfl
    | succ g => rw [limbsF, limbsF, if_pos rfl]
  | succ f ih =>
    cases g with
    | zero =>
      have : n = 0 := by omega
      subst this
      rw [limbsF, limbsF, if_pos rfl]
    | succ g =>
      rw [limbsF, limbsF]
      by_cases h : n = 0
      · rw [if_pos h, if_pos h]
      · have := div_W64_lt h
        rw [if_neg h, if_neg h, ih g _ (by omega) (by omega)]
/-- the limbs of a number, the lowest first -/
def limbs (n : Nat) : List Nat := limbsF n n
theorem limbs_zero : limbs 0 = [] := rfl
theorem limbs_pos {n : Nat} (h : n ≠ 0) : limbs n = (n % W64) :: limbs (n / W64) := by
  have h2 := div_W64_lt h
  obtain ⟨m, rfl⟩ := Nat.exists_eq_succ_of_ne_zero h
  unfold limbs
  rw [limbsF, if_neg h, limbsF_eq m _ _ (by omega) (Nat.le_refl _)]
theorem num_limbs (n : Nat) : num (limbs n) = n := by
  induction n using Nat.strongRecOn with
  | _ n ih =>
    by_cases h : n = 0
    · subst h; rw [limbs_zero]; rfl
    · rw [limbs_pos h, num, ih _ (div_W64_lt h)]; exact Nat.mod_add_div n W64
theorem limbs_bd (n : Nat) : Bd (limbs n) := by
  induction n using Nat.strongRecOn with
  | _ n ih =>
    by_cases h : n = 0
    · subst h; rw [limbs_zero]; exact Bd.nil
    · rw [limbs_pos h]; exact Bd.cons (Nat.mod_lt _ W64_pos) (ih _ (div_W64_lt h))
theorem limbs_nil {n : Nat} : limbs n = [] ↔ n = 0 := by
  constructor
  · intro h; have := num_limbs n; rw [h] at this; exact this.symm
  · rintro rfl; exact limbs_zero
theorem lat_cons_succ (x : Nat) (l : List Nat) (i : Nat) : lat (x :: l) (i + 1) = lat l i := by simp [lat]
theorem limbs_rt (n : Nat) : Rt (limbs n) := by
  induction n using Nat.strongRecOn with
  | _ n ih =>
    by_cases h : n = 0
    · subst h; exact .inl limbs_zero
    · right
      rw [limbs_pos h]
      by_cases h2 : n / W64 = 0
      · rw [h2, limbs_zero]; simp [lat]
        have := (Nat.div_eq_zero_iff_lt W64_pos).1 h2
        rw [Nat.mod_eq_of_lt this]; exact h
      · rcases ih _ (div_W64_lt h) with h3 | h3
        · exact absurd (limbs_nil.1 h3) h2
        · have : (limbs (n / W64)).length ≠ 0 := by
            intro e; exact h2 (limbs_nil.1 (List.eq_nil_of_length_eq_zero e))
          obtain ⟨m, hm⟩ := Nat.exists_eq_succ_of_ne_zero this
          rw [List.length_cons, hm]
          rw [hm] at h3
          simpa [lat_cons_succ] using h3

theorem num_zero_of_rt {l : List Nat} (hr : Rt l) (h : num l = 0) : l = [] := by
  rcases hr with h' | h'
  · exact h'
  · exfalso
    have : l.length ≠ 0 := by intro e; rw [List.eq_nil_of_length_eq_zero e] at h'; simp [lat] at h'
    have e : l.take (l.length - 1 + 1) = l := List.take_of_length_le (by omega)
    have h2 := num_take_succ l (l.length - 1)
    rw [e, h] at h2
    have h3 : 0 < W64 ^ (l.length - 1) * lat l (l.length - 1) := Nat.mul_pos (Nat.pow_pos W64_pos) (Nat.pos_of_ne_zero h')
    omega
theorem Rt.tail {x : Nat} {l : List Nat} (h : Rt (x :: l)) : Rt l := by
  rcases h with h | h
  · cases h
  · by_cases hl : l = []
    · exact .inl hl
    · right
      have : l.length ≠ 0 := by intro e; exact hl (List.eq_nil_of_length_eq_zero e)
      obtain ⟨m, hm⟩ := Nat.exists_eq_succ_of_ne_zero this
      rw [List.length_cons, hm] at h
      rw [hm]
      simpa [lat_cons_succ] using h
theorem limbs_num (l : List Nat) (hb : Bd l) (hr : Rt l) : limbs (num l) = l := by
  induction l with
  | nil => exact limbs_zero
  | cons x r ih =>
    have h0 : num (x :: r) ≠ 0 := fun e => by have := num_zero_of_rt hr e; cases this
    have hx := hb.head
    rw [limbs_pos h0]
    have e1 : num (x :: r) % W64 = x := by rw [num, Nat.add_mul_mod_self_left, Nat.mod_eq_of_lt hx]
    have e2 : num (x :: r) / W64 = num r := by rw [num, Nat.add_mul_div_left _ _ W64_pos, Nat.div_eq_of_lt hx, Nat.zero_add]
    rw [e1, e2, ih hb.tail hr.tail]
theorem num_inj {a b : List Nat} (ha : Bd a) (hb : Bd b) (ra : Rt a) (rb : Rt b) (h : num a = num b) : a = b := by
  rw [← limbs_num a ha ra, ← limbs_num b hb rb, h]

theorem limbs_len_le {n k : Nat} (h : n < W64 ^ k) : (limbs n).length ≤ k := by
  induction k generalizing n with
  | zero => have : n = 0 := by simpa using h
            subst this; simp [limbs_zero]
  | succ k ih =>
    by_cases h0 : n = 0
    · subst h0; simp [limbs_zero]
    · rw [limbs_pos h0, List.length_cons]
      have : n / W64 < W64 ^ k := by rw [Nat.div_lt_iff_lt_mul W64_pos, ← Nat.pow_succ]; exact h
      have := ih this; omega
theorem lt_of_limbs_len {n k : Nat} (h : (limbs n).length ≤ k) : n < W64 ^ k := by
  have := num_lt _ (limbs_bd n)
  rw [num_limbs] at this
  exact Nat.lt_of_lt_of_le this (Nat.pow_le_pow_right W64_pos h)
theorem limbs_len_mono {a b : Nat} (h : a ≤ b) : (limbs a).length ≤ (limbs b).length :=
  limbs_len_le (Nat.lt_of_le_of_lt h (lt_of_limbs_len (Nat.le_refl _)))
theorem le_of_limbs_len {n k : Nat} (h : k < (limbs n).length) : W64 ^ k ≤ n := by
  rcases Nat.lt_or_ge n (W64 ^ k) with h1 | h1
  · have := limbs_len_le h1; omega
  · exact h1
theorem limbs_len_add (a b : Nat) : (limbs (a + b)).length ≤ max (limbs a).length (limbs b).length + 1 := by
  apply limbs_len_le
  have h1 := lt_of_limbs_len (Nat.le_max_left (limbs a).length (limbs b).length)
  have h2 := lt_of_limbs_len (Nat.le_max_right (limbs a).length (limbs b).length)
  rw [Nat.pow_succ]
  have : W64 ^ max (limbs a).length (limbs b).length * 2 ≤ W64 ^ max (limbs a).length (limbs b).length * W64 := Nat.mul_le_mul_left _ (by unfold W64; omega)
  omega
theorem limbs_len_mul (a b : Nat) : (limbs (a * b)).length ≤ (limbs a).length + (limbs b).length := by
  apply limbs_len_le
  rw [Nat.pow_add]
  exact Nat.mul_lt_mul_of_lt_of_le (lt_of_limbs_len (Nat.le_refl _)) (Nat.le_of_lt (lt_of_limbs_len (Nat.le_refl _))) (Nat.pow_pos W64_pos)
theorem limbs_single {x : Nat} (h0 : x ≠ 0) (h : x < W64) : limbs x = [x] := by
  rw [limbs_pos h0, Nat.mod_eq_of_lt h, Nat.div_eq_of_lt h, limbs_zero]
/-- limbs off which noughts were taken -/
theorem limbs_of_take {l : List Nat} {k : Nat} (hb : Bd l) (he : num (l.take k) = num l) (hk : k ≤ l.length) (hr : k = 0 ∨ lat l (k - 1) ≠ 0) : limbs (num l) = l.take k := by
  rw [← he]
  apply limbs_num _ (hb.take k)
  by_cases hk0 : k = 0
  · subst hk0; exact .inl (by simp)
  · right
    have hr := hr.resolve_left hk0
    rw [List.length_take, Nat.min_eq_left hk]
    unfold lat at *
    rw [List.getElem?_take, if_pos (by omega)]; exact hr
theorem num_take_pred {l : List Nat} {k : Nat} (h0 : 0 < k) (h : lat l (k - 1) = 0) : num (l.take (k - 1)) = num (l.take k) := by
  have := num_take_succ l (k - 1)
  rw [h, Nat.mul_zero, Nat.add_zero, Nat.sub_add_cancel h0] at this
  exact this.symm

def cmpI (a b : Int) : Int := if a < b then -1 else if b < a then 1 else 0
theorem cmpI_lt {a b : Int} (h : a < b) : cmpI a b = -1 := by simp [cmpI, h]
theorem cmpI_gt {a b : Int} (h : b < a) : cmpI a b = 1 := by simp [cmpI, h]; omega
theorem cmpI_eq (a : Int) : cmpI a a = 0 := by simp [cmpI]
theorem cmpI_zero {a b : Int} : cmpI a b = 0 ↔ a = b := by unfold cmpI; split <;> (try split) <;> omega
theorem num_split (l : List Nat) (k : Nat) (h : k ≤ l.length) : num l = num (l.take k) + W64 ^ k * num (l.drop k) := by
  have := num_append (l.take k) (l.drop k)
  rw [List.take_append_drop, List.length_take, Nat.min_eq_left h] at this
  exact this
theorem drop_lat (l : List Nat) (k : Nat) (h : k < l.length) : l.drop k = lat l k :: l.drop (k + 1) := by
  rw [List.drop_eq_getElem_cons h]; simp [lat, h]
/-- two rows of limbs that are as long, and agree from place i on -/
theorem num_lt_of_top {a b : List Nat} (ha : Bd a) (_ : Bd b) (i : Nat) (hi : i < a.length) (hl : a.length = b.length) (htop : a.drop (i + 1) = b.drop (i + 1)) (h : lat a i < lat b i) : num a < num b := by
  rw [num_split a i (by omega), num_split b i (by omega), drop_lat a i hi, drop_lat b i (by omega), htop, num, num]
  have h1 := num_lt _ (ha.take i)
  rw [List.length_take, Nat.min_eq_left (by omega)] at h1
  have h2 : W64 ^ i * (lat a i + 1) ≤ W64 ^ i * lat b i := Nat.mul_le_mul_left _ h
  simp only [Nat.mul_add, Nat.mul_one] at *
  omega
theorem num_lt_of_len {a b : List Nat} (ha : Bd a) (rb : Rt b) (h : a.length < b.length) : num a < num b := by
  have h1 := num_lt _ ha
  have h2 : lat b (b.length - 1) ≠ 0 := rb.resolve_left (by intro e; subst e; simp at h)
  have h3 := num_take_succ b (b.length - 1)
  rw [Nat.sub_add_cancel (by omega), List.take_length] at h3
  have h4 : W64 ^ (b.length - 1) * 1 ≤ W64 ^ (b.length - 1) * lat b (b.length - 1) := Nat.mul_le_mul_left _ (by omega)
  have h5 : W64 ^ a.length ≤ W64 ^ (b.length - 1) := Nat.pow_le_pow_right W64_pos (by omega)
  omega
def cmpL (a b : List Nat) : Int := if a.length = b.length then cmpI (num a) (num b) else cmpI a.length b.length
theorem cmpL_limbs (a b : Nat) : cmpL (limbs a) (limbs b) = cmpI a b := by
  unfold cmpL
  rw [num_limbs, num_limbs]
  split
  · rfl
  · rename_i h
    rcases Nat.lt_or_gt_of_ne h with h' | h'
    · have := num_lt_of_len (limbs_bd a) (limbs_rt b) h'
      rw [num_limbs, num_limbs] at this
      rw [cmpI_lt (by omega), cmpI_lt (by omega)]
    · have := num_lt_of_len (limbs_bd b) (limbs_rt a) h'
      rw [num_limbs, num_limbs] at this
      rw [cmpI_gt (by omega), cmpI_gt (by omega)]

/-- binary figures, counted in at most so many steps -/
def blF : Nat → Nat → Nat
  | 0, _ => 0
  | f + 1, n => if n = 0 then 0 else blF f (n / 2) + 1
theorem blF_eq (f g n : Nat) (hf : n ≤ f) (hg : n ≤ g) : blF f n = blF g n := by
  induction f generalizing g n with
  | zero =>
    have : n = 0 := by omega
    subst this
    cases g with
    | zero => rfl
    | succ g => rw [blF, blF, if_pos rfl]
  | succ f ih =>
    cases g with
    | zero =>
      have : n = 0 := by omega
      subst this
      rw [blF, blF, if_pos rfl]
    | succ g =>
      rw [blF, blF]
      by_cases h : n = 0
      · rw [if_pos h, if_pos h]
      · rw [if_neg h, if_neg h, ih g _ (by omega) (by omega)]
/-- how many binary figures a number has -/
def bl (n : Nat) : Nat := blF n n
theorem bl_zero : bl 0 = 0 := rfl
theorem bl_pos {n : Nat} (h : n ≠ 0) : bl n = bl (n / 2) + 1 := by
  obtain ⟨m, rfl⟩ := Nat.exists_eq_succ_of_ne_zero h
  unfold bl
  rw [blF, if_neg h, blF_eq m _ _ (by omega) (Nat.le_refl _)]
theorem lt_bl (n : Nat) : n < 2 ^ bl n := by
  induction n using Nat.strongRecOn with
  | _ n ih =>
    by_cases h : n = 0
    · subst h; simp [bl_zero]
    · rw [bl_pos h, Nat.pow_succ]
      have := ih _ (Nat.div_lt_self (by omega : 0 < n) (by omega : 1 < 2))
      omega
theorem bl_le {n : Nat} (h : n ≠ 0) : 2 ^ (bl n - 1) ≤ n := by
  induction n using Nat.strongRecOn with
  | _ n ih =>
    rw [bl_pos h, Nat.add_sub_cancel]
    by_cases h2 : n / 2 = 0
    · rw [h2, bl_zero]; omega
    · have h3 := ih _ (Nat.div_lt_self (by omega : 0 < n) (by omega : 1 < 2)) h2
      have h4 : bl (n / 2) = bl (n / 2) - 1 + 1 := by rw [bl_pos h2]; omega
      rw [h4, Nat.pow_succ]; omega
theorem bl_eq_zero {n : Nat} : bl n = 0 ↔ n = 0 := by
  constructor
  · intro h; have := lt_bl n; rw [h] at this; omega
  · rintro rfl; exact bl_zero
theorem bl_le_iff {n k : Nat} : bl n ≤ k ↔ n < 2 ^ k := by
  constructor
  · intro h; exact Nat.lt_of_lt_of_le (lt_bl n) (Nat.pow_le_pow_right (by omega) h)
  · intro h
    by_cases h0 : n = 0
    · subst h0; simp [bl_zero]
    · rcases Nat.lt_or_ge k (bl n) with h1 | h1
      · have h2 := bl_le h0
        have h3 : 2 ^ k ≤ 2 ^ (bl n - 1) := Nat.pow_le_pow_right (by omega) (by omega)
        omega
      · exact h1
theorem bl_unique {n b : Nat} (h1 : 2 ^ b ≤ n) (h2 : n < 2 ^ (b + 1)) : bl n = b + 1 := by
  have h3 := bl_le_iff.2 h2
  rcases Nat.lt_or_ge (bl n) (b + 1) with h | h
  · have := bl_le_iff.1 (Nat.le_of_lt_succ h); omega
  · omega
theorem bl_mono {a b : Nat} (h : a ≤ b) : bl a ≤ bl b := bl_le_iff.2 (Nat.lt_of_le_of_lt h (lt_bl b))
theorem W64_pow (k : Nat) : W64 ^ k = 2 ^ (64 * k) := by rw [Nat.pow_mul]; rfl
theorem bl_shift {x r k : Nat} (hx : x ≠ 0) (hr : r < W64 ^ k) : bl (r + W64 ^ k * x) = 64 * k + bl x := by
  obtain ⟨m, hm⟩ := Nat.exists_eq_succ_of_ne_zero (show bl x ≠ 0 from fun e => hx (bl_eq_zero.1 e))
  have h1 := bl_le hx
  have h2 := lt_bl x
  rw [hm] at h1 h2 ⊢
  rw [Nat.succ_sub_one] at h1
  rw [W64_pow] at *
  rw [show 64 * k + m.succ = (64 * k + m) + 1 from rfl]
  refine bl_unique ?_ ?_
  · rw [Nat.pow_add]; have := Nat.mul_le_mul_left (2 ^ (64 * k)) h1; omega
  · rw [Nat.add_assoc, Nat.pow_add]
    have h3 := Nat.mul_le_mul_left (2 ^ (64 * k)) (Nat.succ_le_of_lt h2)
    rw [Nat.mul_succ] at h3
    have : m.succ = m + 1 := rfl
    rw [this] at h3
    omega
theorem bl_num {l : List Nat} (hb : Bd l) (hr : Rt l) (h : l ≠ []) : bl (num l) = 64 * (l.length - 1) + bl (lat l (l.length - 1)) := by
  have h0 : 0 < l.length := List.length_pos_iff.2 h
  have e := num_take_succ l (l.length - 1)
  rw [Nat.sub_add_cancel h0, List.take_length] at e
  rw [e]
  have h1 := num_lt _ (hb.take (l.length - 1))
  rw [List.length_take, Nat.min_eq_left (by omega)] at h1
  exact bl_shift (hr.resolve_left h) h1
end Go.Proofs.Ytbnnonmkkkhepaa
