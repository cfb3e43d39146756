/- Slices of int64 that read as lists of integers; rows of the call's own; boxes in a range over a function. -/
import Derived.Test.YtgcebmgmmhdcpaaBase
import Derived.Test.YtgcebmgmmhdcpaaApp
namespace Go.Proofs.Ytgcebmgmmhdcpaa
open Go.RowKit
theorem info_i64 : (Try.prog.info? 2).map (fun i => (i.zero, i.size, i.bytes)) = some (some (.int .i64 0), 1, 8) := by kernel_rfl
/-- integers as cells -/
def is (l : List Int) : List Value := l.map (Value.int .i64)
/-- the integer at a place, nought behind the last -/
def iat (l : List Int) (i : Nat) : Int := l[i]?.getD 0
theorem is_len (l : List Int) : (is l).length = l.length := by simp [is]
theorem is_at (l : List Int) (j : Nat) (h : j < l.length) : (is l)[j]? = some (.int .i64 (iat l j)) := by simp [is, iat, h]
theorem is_snoc (l : List Int) (x : Int) : is (l ++ [x]) = is l ++ [.int .i64 x] := by simp [is]
theorem is_append (a b : List Int) : is (a ++ b) = is a ++ is b := by simp [is]
theorem is_one (l : List Int) : ∀ u ∈ is l, u.oneCell' = true := by
  intro u hu; obtain ⟨n, _, rfl⟩ := List.mem_map.1 hu; rfl
theorem iat_snoc_take (l : List Int) (k : Nat) (h : k < l.length) : l.take (k + 1) = l.take k ++ [iat l k] := by
  rw [List.take_succ_eq_append_getElem h]; simp [iat, h]
theorem iat_mem {l : List Int} {k : Nat} (h : k < l.length) : iat l k ∈ l := by
  unfold iat; rw [List.getElem?_eq_getElem h]; exact List.getElem_mem h
/-- the value is a slice that reads as these integers -/
def IsI (w : World) (v : Value) (l : List Int) : Prop :=
  ∃ (A : Option Addr) (c : Nat), v = .slice A l.length c ∧ l.length ≤ c ∧ c ≤ 9223372036854775807 ∧ Reads w w.heap.size 1 A l.length (is l)
section
variable {w w' : World} {v : Value} {l : List Int}
theorem IsI.below (h : IsI w v l) (hb : Below w.heap.size w w') : IsI w' v l := by
  obtain ⟨A, c, e, h1, h2, h3⟩ := h
  exact ⟨A, c, e, h1, h2, (h3.below hb).more hb.size⟩
theorem IsI.nil (w : World) : IsI w (.slice none 0 0) [] := ⟨none, 0, rfl, by simp, by omega, Reads.none_⟩
theorem is_cell {A : Option Addr} {k m B : Nat} (h : Reads w B 1 A m (is l)) (hk : k < m) : ∃ ad, A = some ad ∧ ad.block < B ∧ w.cell? (ad.add k) = some (.int .i64 (iat l k)) := by
  obtain ⟨ad, u, rfl, hb, hx, hc⟩ := h.at_ hk
  have hl : k < l.length := by have := h.1; rw [is_len] at this; omega
  rw [is_at _ _ hl] at hx
  obtain rfl := Option.some.inj hx
  exact ⟨ad, rfl, hb, hc⟩
theorem IsI.of_own {base : Nat} {e : TypeId} (h : w.ownsRow base e 1 v l.length (is l)) : IsI w v l := by
  obtain ⟨A, c, rfl, h1, h2, h3⟩ := own_form h
  exact ⟨A, c, rfl, h1, h2, h3⟩
theorem IsI.fresh (w : World) (t : TypeId) (l : List Int) (hl : l.length ≤ 9223372036854775807) : IsI (w.alloc (.cells (is l).toArray t)) (.slice (some ⟨w.heap.size, 0, none⟩) l.length l.length) l :=
  ⟨_, _, rfl, Nat.le_refl _, hl, by simpa using Reads.fresh w t (is l) l.length (is_len l).symm⟩
end
theorem new_cell1 (w : World) (t : TypeId) (u : Value) : (w.alloc (.cells #[u] t)).cell? ⟨w.heap.size, 0, none⟩ = some u := by rw [World.cell?_alloc_at _ _ _ _ rfl]; rfl
end Go.Proofs.Ytgcebmgmmhdcpaa
