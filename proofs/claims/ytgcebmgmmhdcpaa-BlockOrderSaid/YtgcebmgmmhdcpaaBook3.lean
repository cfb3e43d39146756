/- book.Book, kind by kind. -/
import Derived.Test.YtgcebmgmmhdcpaaBook2
import Derived.Outline
namespace Go.Proofs.Ytgcebmgmmhdcpaa
open Go.RowKit Go.Shelf

theorem bx_far {W : World} {C B : Nat} {t : TypeId} {u x : Value} (h : Boxed W C t u) (hne : C ≠ B) : Boxed (W.setCell ⟨B, 0, none⟩ x) C t u := (Below.heap_setCell W ⟨B, 0, none⟩ x C hne).trans h
theorem bx_low {W w1 : World} {b₁ C : Nat} {t : TypeId} {u : Value} (h : Boxed W C t u) (hb : Below b₁ W w1) (hC : C < b₁) : Boxed w1 C t u := (hb.block C hC).trans h
theorem bx_kept {W W' : World} {row : Option Nat} {B : Nat} {t : TypeId} {v : Value} (h : Boxed W B t v) (hg : W.grownBy W' row) (hr : ∀ r, row = some r → ∃ o : Obj, W.heap[r]? = some o ∧ o.isCells = false) : Boxed W' B t v :=
  h.kept hg (fun e => by obtain ⟨o, ho, hc⟩ := hr B e.symm; rw [show W.heap[B]? = _ from h] at ho; cases ho; cases hc)
/-- behind an append onto a row that lies from b₁ on -/
theorem bx_app {W w1 : World} {b₁ : Nat} {e : TypeId} {v : Value} {k : Nat} {xs : List Value} {tmp : Obj} (hrow : W.ownsRow b₁ e 1 v k xs) (hb₁ : b₁ ≤ W.heap.size) (hgrow : (W.alloc tmp).grownBy w1 v.ownBlock) :
    Below b₁ W w1 ∧ KeepsOthers W w1 := by
  refine ⟨((Below.refl b₁ W).alloc hb₁ tmp).grown hgrow (by simp; omega) fun j ej => (hrow.lt j ej).1, (KeepsOthers.alloc W tmp).trans (KeepsOthers.of_grownBy hgrow fun j o ej hj => ?_)⟩
  rcases (hrow.alloc tmp).2 with ⟨rfl, _⟩ | ⟨g, cap, cur, rfl, _, hgb, _⟩
  · simp [Value.ownBlock] at ej
  · obtain rfl : g = j := by simpa [Value.ownBlock] using ej
    rw [hgb] at hj; cases hj; rfl

set_option maxHeartbeats 400000 in
theorem book_none (k : Int) (w : World) (h0 : (k == 0) = false) (h1 : (k == 1) = false) (h2 : (k == 2) = false) (h3 : (k == 3) = false) :
    Calls Try.prog 12 #[.int .i64 k] w fun e w' => e = .returned (.tuple #[.slice none 0 0, .int .i64 1]) ∧ Below w.heap.size w w' := by
  go_enter Try.func12, Try.ntmps12
  go_wp2
  go_ret2
  exact ⟨rfl, ((Below.refl _ w).alloc (Nat.le_refl _) _).alloc (by simp) _⟩

theorem laid2_take (m : Nat) (hm : m < 256) : (laid 2).take (m + 1) = (laid 2).take m ++ [2 * (m : Int) - 255] := by
  have hl : (laid 2).length = 256 := by decide +kernel
  rw [List.take_succ_eq_append_getElem (by omega)]
  simp [laid]
set_option maxRecDepth 100000 in
set_option maxHeartbeats 1000000 in
theorem book_2 (w : World) :
    Calls Try.prog 12 #[.int .i64 2] w fun e w' => ∃ v, e = .returned (.tuple #[v, .int .i64 0]) ∧ IsI w' v (bk 2) ∧ Below w.heap.size w w' := by
  have bK := Boxed.new w 3 (.int .i64 2)
  have bO := Boxed.new (w.alloc (.cells #[.int .i64 2] 3)) 22 (.slice none 0 0)
  rw [World.size_alloc] at bO
  have hB0 : Below w.heap.size w ((w.alloc (.cells #[.int .i64 2] 3)).alloc (.cells #[.slice none 0 0] 22)) := ((Below.refl _ w).alloc (Nat.le_refl _) _).alloc (by simp) _
  go_enter Try.func12, Try.ntmps12
  go_wp2
  go_loopw [32] (fun i wr => ∃ (m : Nat) (v : Value) (l : List Int), m ≤ 256 ∧ i = .int .i64 m ∧ Hid (l = (laid 2).take m) ∧ l.length ≤ m ∧ Boxed wr w.heap.size 3 (.int .i64 2) ∧ Boxed wr (w.heap.size + 1) 22 v ∧ wr.ownsRow (w.heap.size + 2) 2 1 v l.length (is l) ∧ Below w.heap.size w wr ∧ w.heap.size + 2 ≤ wr.heap.size) (fun i _ => 256 - (intOf i).toNat)
  case atStart => exact ⟨0, _, [], by omega, rfl, Lib.hid rfl, Nat.le_refl _, bK.alloc _, bO, World.ownsRow_nil _ _ _ _, hB0, by simp⟩
  case round =>
    obtain ⟨m, v, l, hm, rfl, hl, hll, hK, hO, hown, hB, hsz⟩ := hrel
    have cK := hK.cell
    have cO := hO.cell
    by_cases hlt : m < 256
    · have E : Hid ((laid 2).take (m + 1) = l ++ [2 * (m : Int) - 255]) := by rw [Hid, laid2_take m hlt, hl.out]
      go_wp2_with fail
      refine (show Calls Try.prog 13 #[.int .i64 2] wr (fun e w' => e = .returned (.bool true) ∧ wr = w') from signed_any 2 wr).mono ?_
      rintro e w1 ⟨rfl, rfl⟩
      go_wp2_with (at_builtin; go_must (refine wpList_app1 _ rfl _ _ 22 2 (.int .i64 0) 8 rfl Try.underlying22 info_i64 rfl (w.heap.size + 2) (.int .i64 (2 * (m : Int) - 255)) rfl _ l.length (is l) rfl (hown.alloc _) ⟨wr.heap.size, 0, none⟩ rfl (by simp) (by omega) (by omega) (by simp; omega) ?_; intro v' w1 hown' hgrow; obtain ⟨g', cap', rfl⟩ := ownsRow_succ hown'; obtain ⟨hbl, hko⟩ := bx_app hown hsz hgrow; have hK1 := bx_low hK hbl (by omega); have hO1 := bx_low hO hbl (by omega); have cO1 := hO1.cell; have fO1 := hO1.frozen))
      refine ⟨⟨m + 1, _, l ++ [2 * (m : Int) - 255], by omega, by go_num, E.out.symm, by simp; omega, bx_far hK1 (by omega), hO1.set _, ?_, ?_, ?_⟩, by simp [intOf]; omega⟩
      · rw [is_snoc, List.length_append, List.length_singleton]
        exact ownsRow_setCell_below hown' (by show w.heap.size + 1 < w.heap.size + 2; omega) _
      · exact (hB.trans (hbl.mono (by omega))).setCell (p := ⟨w.heap.size + 1, 0, none⟩) (by simp) _
      · have := hbl.size; simp [World.setCell]; omega
    · obtain rfl : m = 256 := by omega
      have hL : l = laid 2 := by
        have := hl.out
        rwa [List.take_of_length_le (by decide +kernel)] at this
      have hS := sort_own _ v l wr hown (by rw [hL]; decide +kernel) (by omega)
      rw [show l.mergeSort (fun x y => decide (x ≤ y)) = bk 2 from by rw [hL]; exact sort_laid 2 (by omega)] at hS
      have S := Lib.hid hS
      clear hS hL
      go_wp2_with fail
      refine S.out.mono ?_
      rintro e w1 ⟨rfl, hI, hgr⟩
      have hO1 := hO.kept hgr (fun e => by have := (hown.lt _ e.symm).1; omega)
      have cO1 := hO1.cell
      go_wp2
      go_ret2
      exact ⟨_, rfl, hI, hB.grown hgr hB.size (fun j e => by have := (hown.lt j e).1; omega)⟩

theorem laid3_take (m : Nat) (hm : m < 256) : (laid 3).take (m + 1) = (laid 3).take m ++ [(m : Int)] := by
  have hl : (laid 3).length = 256 := by decide +kernel
  rw [List.take_succ_eq_append_getElem (by omega)]
  simp [laid]
set_option maxRecDepth 100000 in
set_option maxHeartbeats 1000000 in
theorem book_3 (w : World) :
    Calls Try.prog 12 #[.int .i64 3] w fun e w' => ∃ v, e = .returned (.tuple #[v, .int .i64 0]) ∧ IsI w' v (bk 3) ∧ Below w.heap.size w w' := by
  have bK := Boxed.new w 3 (.int .i64 3)
  have bO := Boxed.new (w.alloc (.cells #[.int .i64 3] 3)) 22 (.slice none 0 0)
  rw [World.size_alloc] at bO
  have hB0 : Below w.heap.size w ((w.alloc (.cells #[.int .i64 3] 3)).alloc (.cells #[.slice none 0 0] 22)) := ((Below.refl _ w).alloc (Nat.le_refl _) _).alloc (by simp) _
  go_enter Try.func12, Try.ntmps12
  go_wp2
  go_loopw [32] (fun i wr => ∃ (m : Nat) (v : Value) (l : List Int), m ≤ 256 ∧ i = .int .i64 m ∧ Hid (l = (laid 3).take m) ∧ l.length ≤ m ∧ Boxed wr w.heap.size 3 (.int .i64 3) ∧ Boxed wr (w.heap.size + 1) 22 v ∧ wr.ownsRow (w.heap.size + 2) 2 1 v l.length (is l) ∧ Below w.heap.size w wr ∧ w.heap.size + 2 ≤ wr.heap.size) (fun i _ => 256 - (intOf i).toNat)
  case atStart => exact ⟨0, _, [], by omega, rfl, Lib.hid rfl, Nat.le_refl _, bK.alloc _, bO, World.ownsRow_nil _ _ _ _, hB0, by simp⟩
  case round =>
    obtain ⟨m, v, l, hm, rfl, hl, hll, hK, hO, hown, hB, hsz⟩ := hrel
    have cK := hK.cell
    have cO := hO.cell
    by_cases hlt : m < 256
    · have E : Hid ((laid 3).take (m + 1) = l ++ [(m : Int)]) := by rw [Hid, laid3_take m hlt, hl.out]
      go_wp2_with fail
      refine (show Calls Try.prog 13 #[.int .i64 3] wr (fun e w' => e = .returned (.bool false) ∧ wr = w') from signed_any 3 wr).mono ?_
      rintro e w1 ⟨rfl, rfl⟩
      go_wp2_with (at_builtin; go_must (refine wpList_app1 _ rfl _ _ 22 2 (.int .i64 0) 8 rfl Try.underlying22 info_i64 rfl (w.heap.size + 2) (.int .i64 ((m : Int))) rfl _ l.length (is l) rfl (hown.alloc _) ⟨wr.heap.size, 0, none⟩ rfl (by simp) (by omega) (by omega) (by simp; omega) ?_; intro v' w1 hown' hgrow; obtain ⟨g', cap', rfl⟩ := ownsRow_succ hown'; obtain ⟨hbl, hko⟩ := bx_app hown hsz hgrow; have hK1 := bx_low hK hbl (by omega); have hO1 := bx_low hO hbl (by omega); have cO1 := hO1.cell; have fO1 := hO1.frozen))
      refine ⟨⟨m + 1, _, l ++ [(m : Int)], by omega, by go_num, E.out.symm, by simp; omega, bx_far hK1 (by omega), hO1.set _, ?_, ?_, ?_⟩, by simp [intOf]; omega⟩
      · rw [is_snoc, List.length_append, List.length_singleton]
        exact ownsRow_setCell_below hown' (by show w.heap.size + 1 < w.heap.size + 2; omega) _
      · exact (hB.trans (hbl.mono (by omega))).setCell (p := ⟨w.heap.size + 1, 0, none⟩) (by simp) _
      · have := hbl.size; simp [World.setCell]; omega
    · obtain rfl : m = 256 := by omega
      have hL : l = laid 3 := by
        have := hl.out
        rwa [List.take_of_length_le (by decide +kernel)] at this
      have hS := sort_own _ v l wr hown (by rw [hL]; decide +kernel) (by omega)
      rw [show l.mergeSort (fun x y => decide (x ≤ y)) = bk 3 from by rw [hL]; exact sort_laid 3 (by omega)] at hS
      have S := Lib.hid hS
      clear hS hL
      go_wp2_with fail
      refine S.out.mono ?_
      rintro e w1 ⟨rfl, hI, hgr⟩
      have hO1 := hO.kept hgr (fun e => by have := (hown.lt _ e.symm).1; omega)
      have cO1 := hO1.cell
      go_wp2
      go_ret2
      exact ⟨_, rfl, hI, hB.grown hgr hB.size (fun j e => by have := (hown.lt j e).1; omega)⟩
end Go.Proofs.Ytgcebmgmmhdcpaa
