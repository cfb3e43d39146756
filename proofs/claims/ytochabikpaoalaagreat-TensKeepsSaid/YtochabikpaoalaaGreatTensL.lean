/- What holds of rows kept in blocks, plainly: no program in sight. -/
import Derived.Test.YtochabikpaoalaaGreatTensM
namespace Go.Proofs.YtochabikpaoalaaGreat

theorem parts_len {n z : Nat} {f : Nat → List Int} (hf : ∀ i, (f i).length = min z (n - i * z)) : ∀ N, ((List.range N).flatMap f).length = min (N * z) n
  | 0 => by simp
  | N + 1 => by
    rw [List.range_succ, List.flatMap_append, List.length_append, parts_len hf N, List.flatMap_cons, List.flatMap_nil, List.append_nil, hf N, Nat.succ_mul]
    omega
theorem parts_at {n z : Nat} (hz : 1 ≤ z) {f : Nat → List Int} (hf : ∀ i, (f i).length = min z (n - i * z)) : ∀ N i, i < N * z → i < n → ((List.range N).flatMap f)[i]? = (f (i / z))[i % z]?
  | 0, i, h, _ => by rw [Nat.zero_mul] at h; exact absurd h (Nat.not_lt_zero _)
  | N + 1, i, h, hn => by
    rw [List.range_succ, List.flatMap_append, List.flatMap_cons, List.flatMap_nil, List.append_nil]
    rw [Nat.succ_mul] at h
    have hl := parts_len hf N
    rcases Nat.lt_or_ge i (N * z) with h' | h'
    · rw [List.getElem?_append_left (by omega)]
      exact parts_at hz hf N i h' hn
    · rw [List.getElem?_append_right (by omega), hl, Nat.min_eq_left (by omega)]
      have e : i / z = N := by
        rw [Nat.div_eq_iff (by omega)]
        omega
      have e2 : i % z = i - N * z := by
        have := Nat.div_add_mod i z
        rw [e, Nat.mul_comm] at this
        omega
      rw [e, e2]
theorem partZ_flat (z : Nat) (l : List Int) : ∀ N, (List.range N).flatMap (partZ z l) = l.take (N * z)
  | 0 => by simp
  | N + 1 => by
    rw [List.range_succ, List.flatMap_append, partZ_flat z l N, List.flatMap_cons, List.flatMap_nil, List.append_nil, Nat.succ_mul, List.take_add]
    rfl
theorem flatMap_same {f g : Nat → List Int} : ∀ {l : List Nat}, (∀ x ∈ l, f x = g x) → l.flatMap f = l.flatMap g
  | [], _ => rfl
  | y :: r, h => by rw [List.flatMap_cons, List.flatMap_cons, h y (by simp), flatMap_same (l := r) fun x hx => h x (by simp [hx])]
theorem partN_all {z n : Nat} (hz : 1 ≤ z) : n ≤ partN z n * z := by
  rcases Nat.lt_or_ge (partN z n * z) n with h | h
  · exact absurd ((partN_lt hz).2 h) (Nat.lt_irrefl _)
  · exact h
theorem partZ_at (z : Nat) (l : List Int) (i j : Nat) (hj : j < z) : (partZ z l i)[j]? = l[i * z + j]? := by
  unfold partZ
  rw [List.getElem?_take, if_pos hj, List.getElem?_drop]

theorem mayB_iff {k z m o : Int} : mayB k z m o = true ↔ (0 ≤ k ∧ k ≤ 3 ∧ 1 ≤ z ∧ z ≤ 4096 ∧ 0 ≤ m ∧ 0 ≤ o) := by unfold mayB; exact decide_eq_true_iff
section
variable {k z m o : Int} {l : List Int}
theorem ofE_zero (h : ofE k z m o l = 0) : mayB k z m o = true ∧ l.length ≤ 4096 ∧ oddTo k z m o l (partN z.toNat l.length) = false := by
  unfold ofE at h
  by_cases h1 : mayB k z m o = true
  · rw [if_pos h1] at h
    by_cases h2 : l.length ≤ 4096
    · rw [if_pos h2] at h
      cases h3 : oddTo k z m o l (partN z.toNat l.length)
      · exact ⟨h1, h2, rfl⟩
      · rw [h3, if_pos rfl] at h; omega
    · rw [if_neg h2] at h; omega
  · rw [if_neg h1] at h; omega
theorem ofE_cases (h4 : l.length ≤ 4096) : ofE k z m o l = 0 ∨ ofE k z m o l = 1 := by
  unfold ofE
  rw [if_pos h4]
  split
  · split
    · exact .inr rfl
    · exact .inl rfl
  · exact .inr rfl
theorem ofE_ok (h1 : mayB k z m o = true) (h2 : l.length ≤ 4096) (h3 : oddTo k z m o l (partN z.toNat l.length) = false) : ofE k z m o l = 0 := by
  unfold ofE; rw [if_pos h1, if_pos h2, h3]; rfl
theorem odd_part (h : oddTo k z m o l (partN z.toNat l.length) = false) {i : Nat} (hi : i < partN z.toNat l.length) : oddP (kindOf k m o l.length (partZ z.toNat l i)) (partZ z.toNat l i) = false := by
  unfold oddTo at h
  rw [List.any_eq_false] at h
  have := h i (List.mem_range.2 hi)
  simpa using this
theorem oddP_min {kk : Int} {p : List Int} (h : oddP kk p = false) : ∀ x ∈ p, x ≠ -9223372036854775808 := by
  intro x hx e
  unfold oddP at h
  rw [List.any_eq_false] at h
  have := h x hx
  rw [e] at this
  simp [oddB] at this
theorem kindOf_or (n : Nat) (p : List Int) : (kindOf k m o n p = 4 ∧ staysB m o n (greatW p) = true) ∨ (kindOf k m o n p = k ∧ staysB m o n (greatW p) = false) := by
  unfold kindOf
  cases staysB m o n (greatW p)
  · exact .inr ⟨if_neg (by decide), rfl⟩
  · exact .inl ⟨if_pos rfl, rfl⟩
theorem toNat_kind (h : mayB k z m o = true) : ∃ n : Nat, k = n ∧ n < 4 := by
  obtain ⟨h0, h1, _⟩ := mayB_iff.1 h
  exact ⟨k.toNat, by omega, by omega⟩
theorem bk_good (h : mayB k z m o = true) {n : Nat} {p : List Int} (hi : ∀ x ∈ p, I64 x) (hl : p.length ≤ 4096) (ho : oddP (kindOf k m o n p) p = false) :
    bkR (bkOf (kindOf k m o n p) p) = true ∧ bkLen (bkOf (kindOf k m o n p) p) = p.length ∧
    ((bkOf (kindOf k m o n p) p).1 = if staysB m o n (if (bkOf (kindOf k m o n p) p).1 = 4 then greatW (bkOf (kindOf k m o n p) p).2.2.2 else (bkOf (kindOf k m o n p) p).2.1) = true then 4 else k) ∧
    (bkNums (bkOf (kindOf k m o n p) p)).length = p.length ∧ great (bkNums (bkOf (kindOf k m o n p) p)) ≤ great p := by
  obtain ⟨K, rfl, hK⟩ := toNat_kind h
  have hm := oddP_min ho
  rcases kindOf_or (k := (K : Int)) (m := m) (o := o) n p with ⟨e, e2⟩ | ⟨e, e2⟩
  · rw [e] at ho ⊢
    have hb : bkOf 4 p = (4, 0, [], p) := if_pos rfl
    rw [hb]
    have ho' : p.any (oddB true) = false := ho
    refine ⟨wide_right hl ho', by simp [bkLen], ?_, ?_, ?_⟩
    · rw [if_pos rfl, e2, if_pos rfl]
    · simp [bkNums]
    · simp [bkNums]
  · rw [e] at ho ⊢
    have h4 : (K : Int) ≠ 4 := by omega
    have hb : bkOf K p = ((K : Int), great p, packC K p, []) := if_neg h4
    have ho' : p.any (oddB (sgn (K : Nat))) = false := by
      have e4 : ((K : Int) == 4) = false := by rw [beq_eq_false_iff_ne]; exact h4
      unfold oddP at ho
      rw [e4, Bool.false_or] at ho
      exact ho
    rw [hb]
    refine ⟨packed_right hK hl ho', by simp [bkLen, packC_len], ?_, ?_, ?_⟩
    · simp only
      rw [if_neg h4, ← greatW_eq hi hm, e2]; rfl
    · simp only [bkNums]
      rw [if_neg h4]; simp [loadC, packC_len]
    · simp only [bkNums]
      rw [if_neg h4]
      exact (load_great hK ho').1
theorem bksTo_at {j i : Nat} (hi : i < j) : (bksTo k z m o l j)[i]?.getD (0, 0, [], []) = bkOf (kindOf k m o l.length (partZ z.toNat l i)) (partZ z.toNat l i) := by
  unfold bksTo; rw [List.getElem?_map, List.getElem?_range hi]; rfl
theorem size_of (h : mayB k z m o = true) : ∃ Z : Nat, z = Z ∧ 1 ≤ Z ∧ Z ≤ 4096 := by
  obtain ⟨_, _, h1, h2, _⟩ := mayB_iff.1 h
  exact ⟨z.toNat, by omega, by omega, by omega⟩
/-- what is kept is right -/
theorem of_right (hi : ∀ x ∈ l, I64 x) (h : ofE k z m o l = 0) : rightS (ofS k z m o l) = true := by
  obtain ⟨h1, h2, h3⟩ := ofE_zero h
  unfold ofS
  rw [if_pos h]
  obtain ⟨Z, rfl, z1, z2⟩ := size_of h1
  simp only [rightS]
  rw [Int.toNat_natCast] at *
  rw [h1, bksTo_len, partN_int z1]
  simp only [Bool.true_and, Bool.and_eq_true, decide_eq_true_eq]
  refine ⟨⟨by omega, by omega, by first | rfl | trivial⟩, ?_⟩
  unfold okTo
  rw [List.all_eq_true]
  intro i hi'
  have hi' := List.mem_range.1 hi'
  rw [bksTo_at hi', Int.toNat_natCast]
  have ho := odd_part h3 (by rw [Int.toNat_natCast]; exact hi')
  rw [Int.toNat_natCast] at ho
  have hpl := partZ_len Z l i
  obtain ⟨g1, g2, g3, _⟩ := bk_good h1 (n := l.length) (p := partZ Z l i) (fun x hx => hi x (partZ_mem hx)) (by omega) ho
  unfold okAt
  rw [g1, ← g3, decide_eq_true rfl, g2, hpl]
  simp only [Bool.true_and, decide_eq_true_eq]
  have := (partN_lt z1).1 hi'
  have e : ((i * Z : Nat) : Int) = (i : Int) * Z := by push_cast; rfl
  rw [← e]
  omega
theorem load_of (h : ofE k z m o l = 0) : loadS (bksTo k z m o l (partN z.toNat l.length)) = (List.range (partN z.toNat l.length)).flatMap fun i => bkNums (bkOf (kindOf k m o l.length (partZ z.toNat l i)) (partZ z.toNat l i)) := by
  unfold loadS bksTo; rw [List.flatMap_map]
theorem load_parts (hi : ∀ x ∈ l, I64 x) (h : ofE k z m o l = 0) {i : Nat} (hi' : i < partN z.toNat l.length) :
    (bkNums (bkOf (kindOf k m o l.length (partZ z.toNat l i)) (partZ z.toNat l i))).length = (partZ z.toNat l i).length ∧ great (bkNums (bkOf (kindOf k m o l.length (partZ z.toNat l i)) (partZ z.toNat l i))) ≤ great (partZ z.toNat l i) := by
  obtain ⟨h1, h2, h3⟩ := ofE_zero h
  obtain ⟨Z, rfl, z1, z2⟩ := size_of h1
  have ho := odd_part h3 hi'
  rw [Int.toNat_natCast] at *
  have hpl := partZ_len Z l i
  obtain ⟨_, _, _, g4, g5⟩ := bk_good h1 (n := l.length) (p := partZ Z l i) (fun x hx => hi x (partZ_mem hx)) (by omega) ho
  exact ⟨g4, g5⟩
theorem load_len (hi : ∀ x ∈ l, I64 x) (h : ofE k z m o l = 0) : (loadS (ofS k z m o l).2.2.2.2.2).length = l.length := by
  unfold ofS
  rw [if_pos h]
  simp only
  rw [load_of h]
  obtain ⟨h1, h2, h3⟩ := ofE_zero h
  obtain ⟨Z, rfl, z1, z2⟩ := size_of h1
  rw [Int.toNat_natCast] at *
  have e : ∀ N, N ≤ partN Z l.length → ((List.range N).flatMap fun i => bkNums (bkOf (kindOf k m o l.length (partZ Z l i)) (partZ Z l i))).length = ((List.range N).flatMap (partZ Z l)).length := by
    intro N
    induction N with
    | zero => intro _; rfl
    | succ N ih =>
      intro hN
      rw [List.range_succ, List.flatMap_append, List.flatMap_append, List.length_append, List.length_append, ih (by omega)]
      have := (load_parts hi h (i := N) (by rw [Int.toNat_natCast]; omega)).1
      rw [Int.toNat_natCast] at this
      simp only [List.flatMap_cons, List.flatMap_nil, List.append_nil]
      omega
  rw [e _ (Nat.le_refl _), partZ_flat, List.length_take]
  have := partN_all (n := l.length) z1
  omega
theorem load_great_of (hi : ∀ x ∈ l, I64 x) (h : ofE k z m o l = 0) : great (loadS (ofS k z m o l).2.2.2.2.2) ≤ great l := by
  unfold ofS
  rw [if_pos h]
  simp only
  rw [load_of h]
  refine great_le (great_nonneg l) fun x hx => ?_
  obtain ⟨i, hi', hx⟩ := List.mem_flatMap.1 hx
  have h1 := great_mem hx
  have h2 := (load_parts hi h (List.mem_range.1 hi')).2
  have h3 : great (partZ z.toNat l i) ≤ great l := great_sub fun y hy => partZ_mem hy
  omega
/-- no number of a row that is kept is the least one -/
theorem of_min (h : ofE k z m o l = 0) : ∀ x ∈ l, x ≠ -9223372036854775808 := by
  obtain ⟨h1, h2, h3⟩ := ofE_zero h
  obtain ⟨Z, rfl, z1, z2⟩ := size_of h1
  intro x hx
  have e : (List.range (partN Z l.length)).flatMap (partZ Z l) = l := by
    rw [partZ_flat, List.take_of_length_le]
    exact partN_all z1
  rw [← e] at hx
  obtain ⟨i, hi', hx⟩ := List.mem_flatMap.1 hx
  have ho := odd_part h3 (by rw [Int.toNat_natCast]; exact List.mem_range.1 hi')
  rw [Int.toNat_natCast] at ho
  exact oddP_min ho x hx
/-- the numbers of wide blocks are as they were -/
theorem loadS_wide (hi : ∀ x ∈ l, I64 x) (h : ofE k z m o l = 0) {i : Nat} (hl : i < l.length) (hw : ((bksTo k z m o l (partN z.toNat l.length))[i / z.toNat]?.getD (0, 0, [], [])).1 = 4) :
    i / z.toNat < partN z.toNat l.length ∧ iat (loadS (bksTo k z m o l (partN z.toNat l.length))) i = iat l i := by
  have hlp := fun j hj => (load_parts hi h (i := j) hj).1
  rw [load_of h]
  obtain ⟨h1, h2, h3⟩ := ofE_zero h
  obtain ⟨Z, rfl, z1, z2⟩ := size_of h1
  rw [Int.toNat_natCast] at *
  have hN : i / Z < partN Z l.length := (partN_lt z1).2 (by have := Nat.div_mul_le_self i Z; omega)
  refine ⟨hN, ?_⟩
  have hz2 := Nat.mod_lt i (show Z > 0 by omega)
  have key : ((List.range (partN Z l.length)).flatMap fun i => bkNums (bkOf (kindOf k m o l.length (partZ Z l i)) (partZ Z l i)))[i]? = (bkNums (bkOf (kindOf k m o l.length (partZ Z l (i / Z))) (partZ Z l (i / Z))))[i % Z]? := by
    have := parts_at (n := l.length) z1 (f := fun i => if i < partN Z l.length then bkNums (bkOf (kindOf k m o l.length (partZ Z l i)) (partZ Z l i)) else partZ Z l i)
      (fun j => by
        by_cases hj : j < partN Z l.length
        · simp only [if_pos hj]; rw [hlp j hj, partZ_len]
        · simp only [if_neg hj]; exact partZ_len Z l j) (partN Z l.length) i (Nat.lt_of_lt_of_le hl (partN_all z1)) hl
    simp only [if_pos hN] at this
    rw [← this]
    exact congrArg (fun l : List Int => l[i]?) (flatMap_same fun j hj => by rw [if_pos (List.mem_range.1 hj)])
  unfold iat
  rw [key]
  have hb := bksTo_at (k := k) (z := (Z : Int)) (m := m) (o := o) (l := l) hN
  rw [Int.toNat_natCast] at hb
  rw [hb] at hw
  have hb4 : bkOf (kindOf k m o l.length (partZ Z l (i / Z))) (partZ Z l (i / Z)) = (4, 0, [], partZ Z l (i / Z)) := by
    unfold bkOf at hw ⊢
    by_cases h4 : kindOf k m o l.length (partZ Z l (i / Z)) = 4
    · rw [if_pos h4]
    · rw [if_neg h4] at hw; exact absurd hw h4
  rw [hb4]
  simp only [bkNums, if_true]
  rw [partZ_at Z l _ _ hz2, Nat.mul_comm, Nat.div_add_mod]
/-- is one of the blocks wide? -/
def anyWide (bs : List Bk) : Bool := bs.any fun b => decide (b.1 = 4)
theorem costS_append (a b : List Bk) : costS (a ++ b) = costS a + costS b := by
  induction a with
  | nil => simp [costS]
  | cons y r ih => simp only [List.cons_append, costS, ih]; omega
theorem cost_of (h : ofE k z m o l = 0) :
    costS (bksTo k z m o l (partN z.toNat l.length)) ≤ 8 * (l.length : Int) + 8 * (partN z.toNat l.length : Nat) ∧
    (anyWide (bksTo k z m o l (partN z.toNat l.length)) = false → costS (bksTo k z m o l (partN z.toNat l.length)) = (l.length : Int) + 8 * (partN z.toNat l.length : Nat)) ∧
    (anyWide (bksTo k z m o l (partN z.toNat l.length)) = true → (l.length : Int) < m ∨ 0 < o) := by
  obtain ⟨h1, h2, h3⟩ := ofE_zero h
  obtain ⟨Z, rfl, z1, z2⟩ := size_of h1
  obtain ⟨k0, k3, _⟩ := mayB_iff.1 h1
  rw [Int.toNat_natCast]
  have key : ∀ N, costS (bksTo k Z m o l N) ≤ 8 * (((List.range N).flatMap (partZ Z l)).length : Int) + 8 * (N : Int) ∧
      (anyWide (bksTo k Z m o l N) = false → costS (bksTo k Z m o l N) = (((List.range N).flatMap (partZ Z l)).length : Int) + 8 * (N : Int)) ∧ (anyWide (bksTo k Z m o l N) = true → (l.length : Int) < m ∨ 0 < o) := by
    intro N
    induction N with
    | zero => exact ⟨by simp [bksTo, costS], fun _ => by simp [bksTo, costS], fun e => by simp [bksTo, anyWide] at e⟩
    | succ N ih =>
      obtain ⟨a1, a2, a3⟩ := ih
      rw [bksTo_succ, costS_snoc, Int.toNat_natCast, List.range_succ, List.flatMap_append, List.length_append]
      simp only [List.flatMap_cons, List.flatMap_nil, List.append_nil]
      have hw : anyWide (bksTo k Z m o l N ++ [bkOf (kindOf k m o l.length (partZ Z l N)) (partZ Z l N)]) = (anyWide (bksTo k Z m o l N) || decide ((bkOf (kindOf k m o l.length (partZ Z l N)) (partZ Z l N)).1 = 4)) := by
        unfold anyWide; rw [List.any_append]; simp
      rw [hw]
      generalize ((List.range N).flatMap (partZ Z l)).length = L at *
      generalize bksTo k (Z : Int) m o l N = bs at *
      rcases kindOf_or (k := k) (m := m) (o := o) l.length (partZ Z l N) with ⟨e, e2⟩ | ⟨e, e2⟩
      · rw [e]
        have hb : bkOf 4 (partZ Z l N) = (4, 0, [], partZ Z l N) := if_pos rfl
        rw [hb]
        refine ⟨?_, fun c => ?_, fun _ => ?_⟩
        · simp only [costB, if_true]; push_cast; omega
        · simp at c
        · unfold staysB at e2
          simp only [Bool.or_eq_true, Bool.and_eq_true, decide_eq_true_eq] at e2
          omega
      · rw [e]
        have h4 : k ≠ 4 := by omega
        have hb : bkOf k (partZ Z l N) = (k, great (partZ Z l N), packC k (partZ Z l N), []) := if_neg h4
        rw [hb]
        have hc : costB (k, great (partZ Z l N), packC k (partZ Z l N), []) = ((partZ Z l N).length : Int) + 8 := by
          unfold costB; simp only; rw [if_neg h4, packC_len]
        rw [hc]
        refine ⟨by push_cast; omega, fun c => ?_, fun c => ?_⟩
        · rw [Bool.or_eq_false_iff] at c
          have := a2 c.1
          push_cast; omega
        · simp only [h4, decide_false, Bool.or_false] at c
          exact a3 c
  obtain ⟨b1, b2, b3⟩ := key (partN Z l.length)
  rw [partZ_flat, List.take_of_length_le (partN_all z1)] at b1 b2
  exact ⟨b1, b2, b3⟩
/-- a block hangs on its own numbers, and on how many there are -/
theorem apart_of {l' : List Int} (hl : l'.length = l.length) {j : Nat} (hne : ∀ i, i ≠ j → l'[i]? = l[i]?) {i : Nat} (h1 : mayB k z m o = true) (hi : i ≠ j / z.toNat) :
    bkOf (kindOf k m o l'.length (partZ z.toNat l' i)) (partZ z.toNat l' i) = bkOf (kindOf k m o l.length (partZ z.toNat l i)) (partZ z.toNat l i) := by
  obtain ⟨Z, rfl, z1, z2⟩ := size_of h1
  rw [Int.toNat_natCast] at *
  have e : partZ Z l' i = partZ Z l i := by
    apply List.ext_getElem?
    intro q
    rcases Nat.lt_or_ge q Z with hq | hq
    · rw [partZ_at Z l' i q hq, partZ_at Z l i q hq]
      refine hne _ fun e => hi ?_
      rw [← e, Nat.add_comm, Nat.add_mul_div_right _ _ (by omega), Nat.div_eq_of_lt hq]
      omega
    · have h1 := partZ_len Z l' i
      have h2 := partZ_len Z l i
      rw [List.getElem?_eq_none (by omega), List.getElem?_eq_none (by omega)]
  rw [hl, e]
end
/- two rows, one behind the other -/
section
variable {k z m o : Int} {a b : List Int}
theorem joined_part {Z : Nat} (z1 : 1 ≤ Z) (ha : a.length % Z = 0) : partN Z (a ++ b).length = partN Z a.length + partN Z b.length ∧ (∀ i, i < partN Z a.length → partZ Z (a ++ b) i = partZ Z a i) ∧ (∀ i, partZ Z (a ++ b) (partN Z a.length + i) = partZ Z b i) := by
  obtain ⟨q, hq⟩ : ∃ q, a.length = q * Z := ⟨a.length / Z, by have := Nat.div_add_mod a.length Z; rw [ha, Nat.mul_comm] at this; omega⟩
  have e1 : partN Z a.length = q := by
    unfold partN
    rw [hq, Nat.add_sub_assoc z1, Nat.add_comm, Nat.add_mul_div_right _ _ (by omega), Nat.div_eq_of_lt (by omega), Nat.zero_add]
  refine ⟨?_, ?_, ?_⟩
  · rw [e1, List.length_append, hq]
    unfold partN
    rw [show q * Z + b.length + Z - 1 = (b.length + Z - 1) + q * Z by omega, Nat.add_mul_div_right _ _ (by omega)]
    omega
  · intro i hi
    rw [e1] at hi
    unfold partZ
    have h : i * Z + Z ≤ q * Z := by rw [← Nat.succ_mul]; exact Nat.mul_le_mul_right Z hi
    rw [List.drop_append_of_le_length (by omega), List.take_append_of_le_length (by rw [List.length_drop]; omega)]
  · intro i
    unfold partZ
    rw [e1, Nat.add_mul, ← hq, List.drop_append, List.drop_eq_nil_of_le (by omega)]
    simp
theorem joined_of (h1 : mayB k z m o = true) (ha : a.length % z.toNat = 0) (la : ¬ (a.length : Int) < m) (lb : ¬ (b.length : Int) < m) (hab : a.length + b.length ≤ 4096) :
    (ofE k z m o a = 0 → ofE k z m o b = 0 → ofE k z m o (a ++ b) = 0 ∧ bksTo k z m o (a ++ b) (partN z.toNat (a ++ b).length) = bksTo k z m o a (partN z.toNat a.length) ++ bksTo k z m o b (partN z.toNat b.length)) ∧
    (ofE k z m o a ≠ 0 ∨ ofE k z m o b ≠ 0 → ofE k z m o (a ++ b) ≠ 0) := by
  obtain ⟨Z, rfl, z1, z2⟩ := size_of h1
  rw [Int.toNat_natCast] at *
  obtain ⟨j1, j2, j3⟩ := joined_part (b := b) z1 ha
  have lab : ¬ ((a ++ b).length : Int) < m := by rw [List.length_append]; push_cast; omega
  have hk : ∀ (n n' : Nat) (p : List Int), ¬ (n : Int) < m → ¬ (n' : Int) < m → kindOf k m o n p = kindOf k m o n' p := by
    intro n n' p h h'
    unfold kindOf staysB
    rw [decide_eq_false h, decide_eq_false h']
  have hodd : oddTo k Z m o (a ++ b) (partN Z (a ++ b).length) = (oddTo k Z m o a (partN Z a.length) || oddTo k Z m o b (partN Z b.length)) := by
    rw [j1]
    unfold oddTo
    rw [Int.toNat_natCast, List.range_add, List.any_append, List.any_map]
    congr 1
    · rw [Bool.eq_iff_iff, List.any_eq_true, List.any_eq_true]
      constructor
      · rintro ⟨i, hi, h⟩
        rw [j2 i (List.mem_range.1 hi), hk _ a.length _ lab la] at h
        exact ⟨i, hi, h⟩
      · rintro ⟨i, hi, h⟩
        refine ⟨i, hi, ?_⟩
        rw [j2 i (List.mem_range.1 hi), hk _ a.length _ lab la]
        exact h
    · rw [Bool.eq_iff_iff, List.any_eq_true, List.any_eq_true]
      constructor
      · rintro ⟨i, hi, h⟩
        simp only [Function.comp] at h
        rw [j3 i, hk _ b.length _ lab lb] at h
        exact ⟨i, hi, h⟩
      · rintro ⟨i, hi, h⟩
        refine ⟨i, hi, ?_⟩
        simp only [Function.comp]
        rw [j3 i, hk _ b.length _ lab lb]
        exact h
  refine ⟨fun ea eb => ?_, fun h => ?_⟩
  · obtain ⟨_, _, a3⟩ := ofE_zero ea
    obtain ⟨_, _, b3⟩ := ofE_zero eb
    rw [Int.toNat_natCast] at a3 b3
    refine ⟨ofE_ok h1 (by rw [List.length_append]; exact hab) (by rw [Int.toNat_natCast, hodd, a3, b3]; rfl), ?_⟩
    rw [j1]
    unfold bksTo
    rw [Int.toNat_natCast, List.range_add, List.map_append, List.map_map]
    congr 1
    · refine List.map_congr_left fun i hi => ?_
      rw [j2 i (List.mem_range.1 hi), hk _ a.length _ lab la]
    · refine List.map_congr_left fun i hi => ?_
      simp only [Function.comp]
      rw [j3 i, hk _ b.length _ lab lb]
  · intro e
    obtain ⟨_, _, e3⟩ := ofE_zero e
    rw [Int.toNat_natCast, hodd, Bool.or_eq_false_iff] at e3
    rcases h with h | h
    · exact h (ofE_ok h1 (by omega) (by rw [Int.toNat_natCast]; exact e3.1))
    · exact h (ofE_ok h1 (by omega) (by rw [Int.toNat_natCast]; exact e3.2))
end
end Go.Proofs.YtochabikpaoalaaGreat
