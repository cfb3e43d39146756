/- slices.Sort on a row of the call's own. -/
import Derived.Test.YtgcebmgmmhdcpaaBook1
namespace Go.Proofs.Ytgcebmgmmhdcpaa
open Go.RowKit Go.Shelf Go.Sort

theorem sort_own (base : Nat) (v : Value) (l : List Int) (w : World) (hown : w.ownsRow base 2 1 v l.length (is l)) (h0 : 0 < l.length) (hlen : l.length ≤ 1000000) :
    Calls Try.prog 23 #[v] w fun e w' => e = .returned (.tuple #[]) ∧ IsI w' v (l.mergeSort fun x y => decide (x ≤ y)) ∧ w.grownBy w' v.ownBlock := by
  have hown0 := hown
  rcases hown.2 with ⟨_, h⟩ | ⟨g, cap, cur, rfl, hb, hh, hn, hcap, hs, ht⟩
  · omega
  · have hg : g < w.heap.size := (Array.getElem?_eq_some_iff.1 hh).1
    have hH : Holds (Value.int .i64) w g 0 l.toArray := fun j hj => by
      have hj' : j < l.length := by simpa using hj
      refine ⟨?_, hown0.frozenAt _⟩
      rw [Nat.zero_add, hown0.cellAt j (by omega), is_at l j hj']
      simp [iat, hj']
    refine (sort_any g 0 cap l w hH hg (by omega)).mono ?_
    rintro e w' ⟨rfl, n, os, rfl⟩
    have hsz : (putRow (Value.int .i64) (Sort.ahead w n) g 0 (l.mergeSort fun x y => decide (x ≤ y)).toArray).heap.size = w.heap.size := by
      simp [putRow, mapBlock, Sort.ahead]
    have hms : (l.mergeSort fun x y => decide (x ≤ y)).length = l.length := List.length_mergeSort _
    refine ⟨rfl, ⟨some ⟨g, 0, none⟩, cap, by rw [hms], by omega, hcap, by rw [is_len]; omega, fun _ => ⟨_, rfl, ?_, fun j u hu => ?_⟩⟩, ?_⟩
    · show g < (grow _ os).heap.size
      simp only [grow, Array.size_append]; omega
    · have hj : j < l.length := by
        rcases Nat.lt_or_ge j l.length with h' | h'
        · exact h'
        · rw [List.getElem?_eq_none (by rw [is_len]; omega)] at hu; cases hu
      have e : Addr.add ⟨g, 0, none⟩ j = ⟨g, j, none⟩ := by unfold Addr.add; split <;> simp_all
      rw [e, cell?_grow _ _ _ (by rw [hsz]; exact hg)]
      have hc := cell?_putRow (Value.int .i64) (Sort.ahead w n) g 0 l.toArray (l.mergeSort fun x y => decide (x ≤ y)).toArray (holds_ahead _ w n g 0 _ hH) (by simp) j (by simpa using hj)
      rw [Nat.zero_add] at hc
      rw [hc, ← hu, is_at _ j (by omega)]
      simp [iat, hms, hj]
    · refine ⟨rfl, rfl, rfl, ?_, fun i hi hne => ?_⟩
      · show w.heap.size ≤ (grow _ os).heap.size
        simp only [grow, Array.size_append]; omega
      · have hig : i ≠ g := fun e => hne (by rw [e]; rfl)
        rw [heap_grow_old _ _ (by rw [hsz]; exact hi)]
        simp [putRow, mapBlock, Sort.ahead, Array.getElem?_modify, Ne.symm hig]
end Go.Proofs.Ytgcebmgmmhdcpaa
