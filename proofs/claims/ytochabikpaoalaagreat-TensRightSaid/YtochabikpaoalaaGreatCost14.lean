/- COST: where no block is wide the cost is at most as many as there are numbers, and 8 for each Size of them, or part; else at most 8 for each, and 8 for each block. No conditions: every input. Printed by gen_tcost14.py. -/
import Derived.Test.YtochabikpaoalaaGreatTens4
namespace Go.Proofs.YtochabikpaoalaaGreat
open Go.RowKit
attribute [local go_sem ↓] Go.wp_at_zero Go.wp_at_succ
theorem anyWide_take {bs : List Bk} {j : Nat} {b : Bk} (h : bs[j]? = some b) : anyWide (bs.take (j + 1)) = (anyWide (bs.take j) || decide (b.1 = 4)) := by
  rw [take_bk h]; unfold anyWide; rw [List.any_append]; simp
/-- whatever is kept of few numbers is few blocks -/
theorem few_of {k z m o : Int} {l : List Int} (hi : ∀ x ∈ l, I64 x) (h : ofE k z m o l = 0) : FewB (bksTo k z m o l (partN z.toNat l.length)) ∧ LongB (bksTo k z m o l (partN z.toNat l.length)) ∧ (∀ b ∈ bksTo k z m o l (partN z.toNat l.length), LoadB b) := by
  obtain ⟨h1, h2, h3⟩ := ofE_zero h
  obtain ⟨Z, rfl, z1, z2⟩ := size_of h1
  have hN := partN_le (n := l.length) z1
  have hm := of_min h
  have key : ∀ b ∈ bksTo k (Z : Int) m o l (partN (Z : Int).toNat l.length), bkLen b ≤ 4096 ∧ LoadB b := by
    intro b hb
    unfold bksTo at hb
    obtain ⟨i, hi', rfl⟩ := List.mem_map.1 hb
    have hlt := List.mem_range.1 hi'
    have ho := odd_part h3 hlt
    rw [Int.toNat_natCast] at *
    have hpl := partZ_len Z l i
    have hpi : ∀ x ∈ partZ Z l i, I64 x := fun x hx => hi x (partZ_mem hx)
    obtain ⟨g1, g2, g3, g4, g5⟩ := bk_good h1 (n := l.length) (p := partZ Z l i) hpi (by omega) ho
    refine ⟨by rw [g2, hpl]; omega, ?_⟩
    have hgr := great_in hpi (oddP_min ho)
    have hg0 := great_nonneg (partZ Z l i)
    obtain ⟨k0, k3, _⟩ := mayB_iff.1 h1
    rcases kindOf_or (k := k) (m := m) (o := o) l.length (partZ Z l i) with ⟨e, _⟩ | ⟨e, _⟩
    · rw [e]; exact .inl rfl
    · rw [e]
      have hb : bkOf k (partZ Z l i) = (k, great (partZ Z l i), packC k (partZ Z l i), []) := if_neg (by omega)
      rw [hb]
      exact .inr ⟨k0, k3, hg0, hgr⟩
  refine ⟨⟨?_, fun b hb => by have := (key b hb).1; omega⟩, fun b hb => ?_, fun b hb => (key b hb).2⟩
  · rw [bksTo_len, Int.toNat_natCast]; omega
  · have := (key b hb).1
    unfold bkLen at this
    omega
end Go.Proofs.YtochabikpaoalaaGreat
