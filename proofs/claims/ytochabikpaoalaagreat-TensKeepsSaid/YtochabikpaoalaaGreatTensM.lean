/- Rows of numbers in blocks, plainly: no program in sight. -/
import Derived.Test.YtochabikpaoalaaGreatBlockM
namespace Go.Proofs.YtochabikpaoalaaGreat

/-- a block: its kind, its scale, its codes, its numbers as they are -/
abbrev Bk := Int × Int × List Nat × List Int
/-- is a Keep right? -/
def mayB (k z m o : Int) : Bool := decide (0 ≤ k ∧ k ≤ 3 ∧ 1 ≤ z ∧ z ≤ 4096 ∧ 0 ≤ m ∧ 0 ≤ o)
/-- does a block stay as it is, of a row so long, with such a greatest number? -/
def staysB (m o long g : Int) : Bool := decide (long < m) || (decide (0 < o) && decide (o < g))
/-- the greatest of numbers, as the program reckons it -/
def greatW : List Int → Int
  | [] => 0
  | x :: r => max (max (greatW r) x) (IntKind.i64.wrap (-x))
theorem greatW_snoc (l : List Int) (x : Int) : greatW (l ++ [x]) = max (max (greatW l) x) (IntKind.i64.wrap (-x)) := by
  induction l with
  | nil => rfl
  | cons y r ih => simp only [List.cons_append, greatW, ih]; omega
theorem greatW_nonneg (l : List Int) : 0 ≤ greatW l := by
  induction l with
  | nil => simp [greatW]
  | cons y r ih => simp only [greatW]; omega
theorem greatW_eq {l : List Int} (h : ∀ x ∈ l, I64 x) (hm : ∀ x ∈ l, x ≠ -9223372036854775808) : greatW l = great l := by
  induction l with
  | nil => rfl
  | cons y r ih =>
    have h1 := h y (by simp)
    have h2 := hm y (by simp)
    have e : IntKind.i64.wrap (-y) = -y := by unfold I64 at h1; rw [IntKind.wrap_i64]; omega
    simp only [greatW, great, e, ih (fun x hx => h x (by simp [hx])) (fun x hx => hm x (by simp [hx]))]
theorem greatW_in {l : List Int} (h : ∀ x ∈ l, I64 x) : greatW l ≤ 9223372036854775807 := by
  induction l with
  | nil => simp [greatW]
  | cons y r ih =>
    have h1 := h y (by simp)
    have h2 := ih (fun x hx => h x (by simp [hx]))
    have h3 : IntKind.i64.wrap (-y) ≤ 9223372036854775807 := by rw [IntKind.wrap_i64]; omega
    unfold I64 at h1
    simp only [greatW]; omega
theorem great_sub {l m : List Int} (h : ∀ x ∈ m, x ∈ l) : great m ≤ great l := great_le (great_nonneg l) fun x hx => great_mem (h x hx)
/-- the i-th part -/
def partZ (z : Nat) (l : List Int) (i : Nat) : List Int := (l.drop (i * z)).take z
theorem partZ_mem {z : Nat} {l : List Int} {i : Nat} {x : Int} (h : x ∈ partZ z l i) : x ∈ l := List.mem_of_mem_drop (List.mem_of_mem_take h)
theorem partZ_len (z : Nat) (l : List Int) (i : Nat) : (partZ z l i).length = min z (l.length - i * z) := by unfold partZ; simp
/-- how many parts -/
def partN (z n : Nat) : Nat := (n + z - 1) / z
theorem partN_lt {z n i : Nat} (hz : 1 ≤ z) : i < partN z n ↔ i * z < n := by
  unfold partN
  rw [Nat.lt_div_iff_mul_lt (by omega)]
  constructor <;> intro h <;> omega
theorem partN_le {z n : Nat} (hz : 1 ≤ z) : partN z n ≤ n := by
  rcases Nat.lt_or_ge n (partN z n) with h | h
  · have := (partN_lt hz).1 h
    have h2 : n * 1 ≤ n * z := Nat.mul_le_mul_left n hz
    omega
  · exact h
theorem partN_int {z n : Nat} (hz : 1 ≤ z) : ((partN z n : Nat) : Int) = ((n : Int) + z - 1) / z := by
  unfold partN
  rw [Int.natCast_ediv]
  congr 1
  omega
/-- the kind of a part -/
def kindOf (k m o : Int) (n : Nat) (p : List Int) : Int := if staysB m o n (greatW p) = true then 4 else k
/-- may a part not be? -/
def oddP (kk : Int) (p : List Int) : Bool := p.any (oddB (kk == 4 || sgn kk))
/-- the block of a part -/
def bkOf (kk : Int) (p : List Int) : Bk := if kk = 4 then (4, 0, [], p) else (kk, great p, packC kk p, [])
/-- may one of the first parts not be? -/
def oddTo (k z m o : Int) (l : List Int) (j : Nat) : Bool := (List.range j).any fun i => oddP (kindOf k m o l.length (partZ z.toNat l i)) (partZ z.toNat l i)
/-- the blocks of the first parts -/
def bksTo (k z m o : Int) (l : List Int) (j : Nat) : List Bk := (List.range j).map fun i => bkOf (kindOf k m o l.length (partZ z.toNat l i)) (partZ z.toNat l i)
theorem oddTo_succ (k z m o : Int) (l : List Int) (j : Nat) : oddTo k z m o l (j + 1) = (oddTo k z m o l j || oddP (kindOf k m o l.length (partZ z.toNat l j)) (partZ z.toNat l j)) := by
  unfold oddTo; rw [List.range_succ, List.any_append]; simp
theorem bksTo_succ (k z m o : Int) (l : List Int) (j : Nat) : bksTo k z m o l (j + 1) = bksTo k z m o l j ++ [bkOf (kindOf k m o l.length (partZ z.toNat l j)) (partZ z.toNat l j)] := by
  unfold bksTo; rw [List.range_succ, List.map_append]; rfl
theorem bksTo_len (k z m o : Int) (l : List Int) (j : Nat) : (bksTo k z m o l j).length = j := by simp [bksTo]
theorem oddTo_mono {k z m o : Int} {l : List Int} {i j : Nat} (h : oddTo k z m o l i = true) (hij : i ≤ j) : oddTo k z m o l j = true := by
  unfold oddTo at *
  rw [List.any_eq_true] at *
  obtain ⟨x, hx, hp⟩ := h
  exact ⟨x, List.mem_range.2 (Nat.lt_of_lt_of_le (List.mem_range.1 hx) hij), hp⟩
/-- why a row is not kept, or 0 -/
def ofE (k z m o : Int) (l : List Int) : Int := if mayB k z m o = true then (if l.length ≤ 4096 then (if oddTo k z m o l (partN z.toNat l.length) = true then 1 else 0) else 6) else 1
/-- what is kept: the Keep, how long, the blocks -/
abbrev St := Int × Int × Int × Int × Int × List Bk
def ofS (k z m o : Int) (l : List Int) : St := if ofE k z m o l = 0 then (k, z, m, o, (l.length : Int), bksTo k z m o l (partN z.toNat l.length)) else (0, 0, 0, 0, 0, [])
/-- how many numbers -/
def bkLen (b : Bk) : Nat := b.2.2.1.length + b.2.2.2.length
def bkR (b : Bk) : Bool := blkR b.1 b.2.1 b.2.2.1 b.2.2.2
/-- is a block right where it stands? -/
def okAt (k z m o n : Int) (b : Bk) (i : Nat) : Bool :=
  bkR b && (decide (b.1 = if staysB m o n (if b.1 = 4 then greatW b.2.2.2 else b.2.1) = true then 4 else k) && decide ((bkLen b : Int) = min z (n - (i : Int) * z)))
def okTo (k z m o n : Int) (bs : List Bk) (j : Nat) : Bool := (List.range j).all fun i => okAt k z m o n (bs[i]?.getD (0, 0, [], [])) i
theorem okTo_succ (k z m o n : Int) (bs : List Bk) (j : Nat) : okTo k z m o n bs (j + 1) = (okTo k z m o n bs j && okAt k z m o n (bs[j]?.getD (0, 0, [], [])) j) := by
  unfold okTo; rw [List.range_succ, List.all_append]; simp
theorem okTo_le {k z m o n : Int} {bs : List Bk} {i j : Nat} (h : okTo k z m o n bs i = false) (hij : i ≤ j) : okTo k z m o n bs j = false := by
  unfold okTo at *
  rw [List.all_eq_false] at *
  obtain ⟨x, hx, hp⟩ := h
  exact ⟨x, List.mem_range.2 (Nat.lt_of_lt_of_le (List.mem_range.1 hx) hij), hp⟩
/-- is what is kept right? -/
def rightS (s : St) : Bool := match s with
  | (k, z, m, o, n, bs) => mayB k z m o && (decide (0 ≤ n ∧ n ≤ 4096 ∧ (bs.length : Int) = (n + z - 1) / z) && okTo k z m o n bs bs.length)
/-- a block's numbers -/
def bkNums (b : Bk) : List Int := if b.1 = 4 then b.2.2.2 else loadC b.1.toNat b.2.1 b.2.2.1
def loadS (bs : List Bk) : List Int := bs.flatMap bkNums
/-- what it costs -/
def costB (b : Bk) : Int := if b.1 = 4 then 8 * (b.2.2.2.length : Int) else (b.2.2.1.length : Int) + 8
def costS : List Bk → Int
  | [] => 0
  | b :: r => costB b + costS r
theorem costS_snoc (l : List Bk) (b : Bk) : costS (l ++ [b]) = costS l + costB b := by
  induction l with
  | nil => simp [costS]
  | cons y r ih => simp only [List.cons_append, costS, ih]; omega
def lenS : List Bk → Nat
  | [] => 0
  | b :: r => bkLen b + lenS r
theorem lenS_snoc (l : List Bk) (b : Bk) : lenS (l ++ [b]) = lenS l + bkLen b := by
  induction l with
  | nil => simp [lenS]
  | cons y r ih => simp only [List.cons_append, lenS, ih]; omega
theorem costB_le {b : Bk} (h : bkLen b ≤ 1000000) : 0 ≤ costB b ∧ costB b ≤ 8000008 := by
  unfold costB; unfold bkLen at h; split <;> omega
end Go.Proofs.YtochabikpaoalaaGreat
