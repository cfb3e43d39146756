/- Integers' texts by parts of eighteen figures, plainly: no program in sight. -/
import Derived.Test.YtooonjcpdbbniaaGreatDoorTextM
namespace Go.Proofs.YtooonjcpdbbniaaGreatDoor
open Go.Lib
/-- the i-th part of figures -/
def partT (z : Nat) (D : List UInt8) (i : Nat) : List UInt8 := (D.drop (i * z)).take z
theorem take_part (z : Nat) (D : List UInt8) (i : Nat) : D.take ((i + 1) * z) = D.take (i * z) ++ partT z D i := by
  unfold partT; rw [Nat.succ_mul, List.take_add]
/-- the number of the parts so far, with one more -/
theorem val_part (z : Nat) (D : List UInt8) (i : Nat) : valT (D.take ((i + 1) * z)) = valT (D.take (i * z)) * 10 ^ (partT z D i).length + valT (partT z D i) := by
  rw [take_part, valT_append]
theorem part_figs {z : Nat} {D : List UInt8} {i : Nat} (h : ∀ c ∈ D, figB c = true) : ∀ c ∈ partT z D i, figB c = true := fun c hc => h c (List.mem_of_mem_drop (List.mem_of_mem_take hc))
theorem part_len (z : Nat) (D : List UInt8) (i : Nat) : (partT z D i).length = min z (D.length - i * z) := by unfold partT; simp
/-- bytes as numbers -/
def nums (D : List UInt8) : List Nat := D.map (·.toNat)
theorem nums_len (D : List UInt8) : (nums D).length = D.length := by simp [nums]
theorem nums_by (D : List UInt8) : ∀ x ∈ nums D, x < 256 := by
  intro x hx
  obtain ⟨c, _, rfl⟩ := List.mem_map.1 hx
  exact c.toNat_lt
theorem nums_back (D : List UInt8) : (nums D).map UInt8.ofNat = D := by
  unfold nums
  rw [List.map_map]
  conv => rhs; rw [← List.map_id D]
  refine List.map_congr_left fun c _ => ?_
  simp
theorem nums_part (z : Nat) (D : List UInt8) (i : Nat) : ((nums D).drop (i * z)).take z = nums (partT z D i) := by unfold nums partT; rw [List.map_take, List.map_drop]
/-- a part with noughts ahead -/
def padT (k : Nat) (l : List UInt8) : List UInt8 := List.replicate (k - l.length) 48 ++ l
/-- what is printed so far: the rest's numeral, and the parts backwards -/
def PrintAt (n0 n : Nat) (ps : List (List UInt8)) : Prop := (ps = [] ∧ n = n0) ∨ (ps ≠ [] ∧ decDigits n0 = (if n = 0 then [] else decDigits n) ++ ps.reverse.flatten)
theorem PrintAt.begin_ (n0 : Nat) : PrintAt n0 n0 [] := .inl ⟨rfl, rfl⟩
theorem PrintAt.step {n0 n : Nat} {ps : List (List UInt8)} (h : PrintAt n0 n ps) (hn : n ≠ 0 ∨ ps = []) :
    PrintAt n0 (n / 10 ^ 18) (ps ++ [if n / 10 ^ 18 = 0 then decDigits (n % 10 ^ 18) else padT 18 (decDigits (n % 10 ^ 18))]) := by
  have hf : ∀ s : List UInt8, (ps ++ [s]).reverse.flatten = s ++ ps.reverse.flatten := fun s => by rw [List.reverse_append, List.reverse_singleton, List.singleton_append, List.flatten_cons]
  have hne : ∀ s : List UInt8, ps ++ [s] ≠ [] := fun s => by simp
  have key : decDigits n0 = decDigits n ++ ps.reverse.flatten := by
    rcases h with ⟨h1, h2⟩ | ⟨h1, h2⟩
    · rw [h1, h2]; simp
    · rcases hn with hn | hn
      · rw [if_neg hn] at h2; exact h2
      · exact absurd hn h1
  refine .inr ⟨hne _, ?_⟩
  rw [hf, key]
  by_cases hq : n / 10 ^ 18 = 0
  · rw [if_pos hq, if_pos hq, List.nil_append]
    have : n < 10 ^ 18 := by
      rcases Nat.lt_or_ge n (10 ^ 18) with h | h
      · exact h
      · have := (Nat.one_le_div_iff (Nat.pow_pos (by decide : 0 < 10))).2 h
        omega
    rw [Nat.mod_eq_of_lt this]
  · rw [if_neg hq, if_neg hq]
    have hge : 10 ^ 18 ≤ n := by
      rcases Nat.lt_or_ge n (10 ^ 18) with h | h
      · exact absurd (Nat.div_eq_of_lt h) hq
      · exact h
    rcases dec_cut 18 n hge with e | e
    · conv => lhs; rw [e]
      unfold padT
      rw [List.append_assoc]
    · exact absurd e (by decide)
theorem PrintAt.done {n0 : Nat} {ps : List (List UInt8)} (h : PrintAt n0 0 ps) (hn : ps ≠ []) : ps.reverse.flatten = decDigits n0 := by
  rcases h with ⟨h1, _⟩ | ⟨_, h2⟩
  · exact absurd h1 hn
  · rw [if_pos rfl, List.nil_append] at h2; exact h2.symm
end Go.Proofs.YtooonjcpdbbniaaGreatDoor
