/- Texts that are read, plainly: no program in sight. -/
import Derived.Test.YtooonjcpdbbniaaGreatDoorTextM
namespace Go.Proofs.YtooonjcpdbbniaaGreatDoor
open Go.Lib
/-- the first place below n of which p holds, else n -/
def firstB (p : Nat → Bool) : Nat → Nat
  | 0 => 0
  | n + 1 => if firstB p n < n then firstB p n else if p n then n else n + 1
theorem firstB_ok (p : Nat → Bool) : ∀ n, firstB p n ≤ n ∧ (∀ i, i < firstB p n → p i = false) ∧ (firstB p n < n → p (firstB p n) = true)
  | 0 => ⟨Nat.le_refl _, fun i hi => by simp [firstB] at hi, fun h => by simp [firstB] at h⟩
  | n + 1 => by
    obtain ⟨h1, h2, h3⟩ := firstB_ok p n
    unfold firstB
    by_cases h : firstB p n < n
    · rw [if_pos h]; exact ⟨by omega, h2, fun _ => h3 h⟩
    · rw [if_neg h]
      have e : firstB p n = n := by omega
      rw [e] at h2
      cases hp : p n
      · rw [if_neg (by simp)]
        refine ⟨Nat.le_refl _, fun i hi => ?_, fun h => by omega⟩
        rcases Nat.lt_or_ge i n with h' | h'
        · exact h2 i h'
        · obtain rfl : i = n := by omega
          exact hp
      · rw [if_pos rfl]; exact ⟨by omega, h2, fun _ => hp⟩
/-- can a text of figures, behind a minus or not, not go on at the i-th byte? -/
def badAt (neg : Bool) (D : List UInt8) (i : Nat) : Bool := !figB (D.getD i 0) || (decide (i ≠ 0) && decide (D.getD 0 0 = 48)) || (decide (i = 0) && (decide (D.getD i 0 = 48) && neg))
def badN (neg : Bool) (D : List UInt8) : Nat := firstB (badAt neg D) D.length
/-- the integer that a text is, where it can't go on, and why -/
def readD (neg : Bool) (D : List UInt8) : Int × Int × Int :=
  if badN neg D < D.length then (0, (if neg then 1 else 0) + (badN neg D : Nat), 3) else if D = [] then (0, (if neg then 1 else 0), 3) else (if neg then -(valT D : Int) else valT D, 0, 0)
def readT (l : List UInt8) : Int × Int × Int :=
  if 400 < l.length then (0, 0, 6) else if l.head? = some 45 then readD true l.tail else readD false l
theorem badN_le (neg : Bool) (D : List UInt8) : badN neg D ≤ D.length := (firstB_ok _ _).1
theorem bad_none {neg : Bool} {D : List UInt8} (h : ¬ badN neg D < D.length) : ∀ i, i < D.length → badAt neg D i = false := fun i hi => by
  have := badN_le neg D
  exact (firstB_ok (badAt neg D) D.length).2.1 i (by show i < badN neg D; omega)
theorem badN_at {neg : Bool} {D : List UInt8} {c : Nat} (hc : c < D.length) (h1 : ∀ i, i < c → badAt neg D i = false) (h2 : badAt neg D c = true) : badN neg D = c := by
  obtain ⟨k1, k2, k3⟩ := firstB_ok (badAt neg D) D.length
  unfold badN
  rcases Nat.lt_trichotomy (firstB (badAt neg D) D.length) c with h | h | h
  · have a := h1 _ h
    have b := k3 (by omega)
    rw [a] at b; cases b
  · exact h
  · have a := k2 _ h
    rw [h2] at a; cases a
theorem badN_all {neg : Bool} {D : List UInt8} (h1 : ∀ i, i < D.length → badAt neg D i = false) : badN neg D = D.length := by
  rcases Nat.lt_or_ge (badN neg D) D.length with h | h
  · have b := (firstB_ok (badAt neg D) D.length).2.2 h
    have a := h1 _ h
    change badAt neg D (badN neg D) = true at b
    rw [a] at b; cases b
  · exact Nat.le_antisymm (badN_le neg D) h
/-- a text that goes on to its end is figures, the first of which is no nought, but alone and without a minus -/
theorem good_figs {neg : Bool} {D : List UInt8} (h : ¬ badN neg D < D.length) : (∀ c ∈ D, figB c = true) ∧ (D.length ≤ 1 ∨ D.head? ≠ some 48) ∧ (neg = true → D.head? ≠ some 48) := by
  have hb := bad_none h
  refine ⟨fun c hc => ?_, ?_, fun hn => ?_⟩
  · obtain ⟨i, hi, rfl⟩ := List.mem_iff_getElem.1 hc
    have := hb i hi
    unfold badAt at this
    rw [Bool.or_eq_false_iff, Bool.or_eq_false_iff] at this
    have h1 := this.1.1
    rw [List.getD_eq_getElem?_getD, List.getElem?_eq_getElem hi] at h1
    simpa using h1
  · by_cases hl : D.length ≤ 1
    · exact .inl hl
    · right
      have := hb 1 (by omega)
      unfold badAt at this
      rw [Bool.or_eq_false_iff, Bool.or_eq_false_iff] at this
      have h1 := this.1.2
      cases D with
      | nil => simp
      | cons x r => simpa using h1
  · cases D with
    | nil => simp
    | cons x r =>
      have := hb 0 (by simp)
      unfold badAt at this
      rw [Bool.or_eq_false_iff, Bool.or_eq_false_iff] at this
      have h1 := this.2
      rw [hn] at h1
      simpa using h1
theorem figs_good {neg : Bool} {D : List UInt8} (h1 : ∀ c ∈ D, figB c = true) (h2 : D.length ≤ 1 ∨ D.head? ≠ some 48) (h3 : neg = true → D.head? ≠ some 48) : ¬ badN neg D < D.length := by
  intro hlt
  have hb := (firstB_ok (badAt neg D) D.length).2.2 hlt
  change badAt neg D (badN neg D) = true at hb
  generalize badN neg D = i at *
  unfold badAt at hb
  cases D with
  | nil => simp at hlt
  | cons x r =>
    have hf := h1 ((x :: r)[i]) (List.getElem_mem hlt)
    have e : (x :: r).getD i 0 = (x :: r)[i] := by rw [List.getD_eq_getElem?_getD, List.getElem?_eq_getElem hlt]; rfl
    rw [e, hf] at hb
    simp only [Bool.not_true, Bool.false_or, Bool.or_eq_true, Bool.and_eq_true, decide_eq_true_eq] at hb
    rcases hb with ⟨hi, hx⟩ | ⟨hi, hx, hn⟩
    · have : ¬ (x :: r).length ≤ 1 := by omega
      exact h2.resolve_left this (by simpa using hx)
    · subst hi
      exact h3 hn (by simpa using hx)
/-- what is printed is read as it -/
theorem read_text (z : Int) (h : (itoa z).length ≤ 400) : readT (itoa z) = (z, 0, 0) := by
  unfold readT
  rw [if_neg (by omega)]
  unfold itoa at *
  by_cases hz : z < 0
  · rw [if_pos hz] at *
    have hd := dec_head z.natAbs (by omega)
    rw [List.head?_cons, if_pos rfl, List.tail_cons]
    unfold readD
    rw [if_neg (figs_good (dec_figs _) (.inr hd) fun _ => hd), if_neg (dec_ne _), if_pos rfl, val_dec]
    congr 1; omega
  · rw [if_neg hz] at *
    have hh : (decDigits z.toNat).head? ≠ some 45 := by
      cases hd : decDigits z.toNat with
      | nil => simp
      | cons x r =>
        intro e
        obtain rfl : x = 45 := by simpa using e
        have := dec_figs z.toNat 45 (by rw [hd]; simp)
        simp [figB] at this
    rw [if_neg hh]
    have h2 : (decDigits z.toNat).length ≤ 1 ∨ (decDigits z.toNat).head? ≠ some 48 := by
      by_cases h0 : z.toNat = 0
      · left; rw [h0, dec_small (by decide)]; simp
      · exact .inr (dec_head _ h0)
    unfold readD
    rw [if_neg (figs_good (dec_figs _) h2 fun h => by simp at h), if_neg (dec_ne _), if_neg (by decide), val_dec]
    congr 1; omega
/-- what is read is printed as it stood -/
theorem text_read {l : List UInt8} {z a : Int} (h : readT l = (z, a, 0)) : a = 0 ∧ itoa z = l ∧ l.length ≤ 400 := by
  unfold readT at h
  by_cases hl : 400 < l.length
  · rw [if_pos hl] at h; simp at h
  rw [if_neg hl] at h
  by_cases h45 : l.head? = some 45
  · rw [if_pos h45] at h
    unfold readD at h
    by_cases hb : badN true l.tail < l.tail.length
    · rw [if_pos hb] at h; simp at h
    · rw [if_neg hb] at h
      by_cases hn : l.tail = []
      · rw [if_pos hn] at h; simp at h
      · rw [if_neg hn, if_pos rfl] at h
        obtain ⟨g1, g2, g3⟩ := good_figs hb
        have hv := dec_val _ _ rfl g1 hn (.inr (g3 rfl))
        simp only [Prod.mk.injEq, and_true] at h
        obtain ⟨rfl, rfl⟩ := h
        have hpos : valT l.tail ≠ 0 := by
          intro e
          rw [e, dec_small (by decide)] at hv
          have := g3 rfl
          rw [← hv] at this
          exact this rfl
        refine ⟨rfl, ?_, by omega⟩
        unfold itoa
        rw [if_pos (by omega), show (-(valT l.tail : Int)).natAbs = valT l.tail by omega, hv]
        cases l with
        | nil => simp at h45
        | cons x r => obtain rfl : x = 45 := by simpa using h45
                      rfl
  · rw [if_neg h45] at h
    unfold readD at h
    by_cases hb : badN false l < l.length
    · rw [if_pos hb] at h; simp at h
    · rw [if_neg hb] at h
      by_cases hn : l = []
      · rw [if_pos hn] at h; simp at h
      · rw [if_neg hn, if_neg (by decide)] at h
        obtain ⟨g1, g2, g3⟩ := good_figs hb
        have hpl : 0 < l.length := List.length_pos_iff.2 hn
        have hv := dec_val _ _ rfl g1 hn (g2.imp (fun h => by omega) id)
        simp only [Prod.mk.injEq, and_true] at h
        obtain ⟨rfl, rfl⟩ := h
        refine ⟨rfl, ?_, by omega⟩
        unfold itoa
        rw [if_neg (by omega), Int.toNat_natCast, hv]
/-- what is read goes on no farther than the text; where it does not end it is nought, and its place is in the text or its end -/
theorem read_bad {l : List UInt8} (hl : l.length ≤ 400) (h : (readT l).2.2 ≠ 0) : (readT l).1 = 0 ∧ 0 ≤ (readT l).2.1 ∧ (readT l).2.1 ≤ l.length ∧ (readT l).2.2 = 3 := by
  have key : ∀ (neg : Bool) (D : List UInt8), (readD neg D).2.2 ≠ 0 → (readD neg D).1 = 0 ∧ 0 ≤ (readD neg D).2.1 ∧ (readD neg D).2.1 ≤ (if neg then 1 else 0) + D.length ∧ (readD neg D).2.2 = 3 := by
    intro neg D
    have hle := badN_le neg D
    unfold readD
    by_cases hb : badN neg D < D.length
    · rw [if_pos hb]; intro _
      refine ⟨rfl, ?_, ?_, rfl⟩ <;> simp only <;> cases neg <;> simp <;> omega
    · rw [if_neg hb]
      by_cases hn : D = []
      · rw [if_pos hn]; intro _
        refine ⟨rfl, ?_, ?_, rfl⟩ <;> simp only <;> cases neg <;> simp <;> omega
      · rw [if_neg hn]; intro h; exact absurd rfl h
  unfold readT at *
  rw [if_neg (by omega)] at *
  by_cases h45 : l.head? = some 45
  · rw [if_pos h45] at *
    obtain ⟨k1, k2, k3, k4⟩ := key _ _ h
    refine ⟨k1, k2, ?_, k4⟩
    cases l with
    | nil => simp at h45
    | cons x r => simp only [List.tail_cons, if_true] at k3; simp only [List.tail_cons, List.length_cons]; omega
  · rw [if_neg h45] at *
    obtain ⟨k1, k2, k3, k4⟩ := key _ _ h
    exact ⟨k1, k2, by simpa using k3, k4⟩
end Go.Proofs.YtooonjcpdbbniaaGreatDoor
