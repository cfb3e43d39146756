/- The document's codebooks of layer 9, every kind; gaps. -/
import Derived.Test.YtochabikpaoalaaGreatRef09
import Derived.Test.YtochabikpaoalaaGreatRef09s
import Derived.Test.YtochabikpaoalaaGreatLaw09b
import Derived.Deep.RegionLaw
import Derived.RegionTactic
namespace Go.Proofs.YtochabikpaoalaaGreat
open Go.RowKit Go.Shelf

theorem line_2 : ∀ j < 256, iat (bk 2) j = 2 * (j : Int) - 255 := by decide +kernel
theorem line_3 : ∀ j < 256, iat (bk 3) j = (j : Int) := by decide +kernel

set_option maxRecDepth 100000 in
set_option maxHeartbeats 1000000 in
theorem rbook_2 (w : World) : Calls Tryz.prog 41 #[.int .i64 2] w fun e w' => ∃ v, e = .returned (.tuple #[v, .int .i64 0]) ∧ IsI w' v (bk 2) ∧ Below w.heap.size w w' := by
  have hown0 := World.ownsRow_lit w #[] 0 (base := w.heap.size) (e := 2) (size := 1) (Nat.le_refl _) (by unfold maxLen; omega) rfl
  go_enter Tryz.func41, Tryz.ntmps41
  go_wp2
  go_loopw [5, 4] (fun i o wr => ∃ (j : Nat) (l : List Int), j ≤ 256 ∧ i = .int .i64 (j : Nat) ∧ Hid (l = (bk 2).take j) ∧ l.length ≤ 256 ∧ wr.ownsRow w.heap.size 2 1 o l.length (is l) ∧ Below w.heap.size w wr) (fun i _ _ => 256 - (intOf i).toNat)
  case atStart => exact ⟨0, [], by omega, rfl, Lib.hid rfl, by simp, hown0, (Below.refl _ w).alloc (Nat.le_refl _) _⟩
  case round =>
    obtain ⟨j, l, hj, rfl, hl, hll, hown, hB⟩ := hrel
    by_cases hlt : j < 256
    · obtain ⟨x, hx⟩ : ∃ x : Int, x = 2 * (j : Int) - 255 := ⟨_, rfl⟩
      have hsn : Hid ((bk 2).take (j + 1) = l ++ [x]) := by
        rw [Hid, hl.out, bk_snoc 2 (by omega) _ hlt, line_2 j hlt, hx]
      clear hl
      have hw1 : IntKind.i64.wrap (2 * (j : Int)) = 2 * (j : Int) := by rw [IntKind.wrap_i64]; omega
      have hw2 : IntKind.i64.wrap (2 * (j : Int) - 255) = x := by rw [hx, IntKind.wrap_i64]; omega
      have Hx := Lib.hid hx
      clear hx
      go_wp2_with (at_builtin; go_must (refine wpList_app1 _ rfl _ _ 34 2 (.int .i64 0) 8 rfl Tryz.underlying34 info_i64 rfl w.heap.size (.int .i64 x) rfl _ l.length (is l) rfl (hown.alloc _) ⟨wr.heap.size, 0, none⟩ rfl (by simp) (by omega) (by omega) (by have := hB.size; simp; omega) ?_; intro v' w1 hown' hgrow; obtain ⟨g', cap', rfl⟩ := ownsRow_succ hown'; obtain ⟨hbl, hko⟩ := bx_app hown hB.size hgrow))
      refine ⟨⟨j + 1, l ++ [x], by omega, by go_num, Lib.hid hsn.out.symm, by rw [← hsn.out, List.length_take, bk_len 2 (by omega)]; omega, ?_, hB.trans (hbl.mono (by omega))⟩, by simp [intOf]; omega⟩
      rw [is_snoc, List.length_append, List.length_singleton]; exact hown'
    · obtain rfl : j = 256 := by omega
      have hL : l = bk 2 := by rw [hl.out, List.take_of_length_le (by rw [bk_len 2 (by omega)]; omega)]
      have HL := Lib.hid hL
      clear hL hl
      go_wp2
      go_ret2
      refine ⟨_, rfl, ?_, hB⟩
      rw [← HL.out]
      exact IsI.of_own hown

set_option maxRecDepth 100000 in
set_option maxHeartbeats 1000000 in
theorem rbook_3 (w : World) : Calls Tryz.prog 41 #[.int .i64 3] w fun e w' => ∃ v, e = .returned (.tuple #[v, .int .i64 0]) ∧ IsI w' v (bk 3) ∧ Below w.heap.size w w' := by
  have hown0 := World.ownsRow_lit w #[] 0 (base := w.heap.size) (e := 2) (size := 1) (Nat.le_refl _) (by unfold maxLen; omega) rfl
  go_enter Tryz.func41, Tryz.ntmps41
  go_wp2
  go_loopw [5, 4] (fun i o wr => ∃ (j : Nat) (l : List Int), j ≤ 256 ∧ i = .int .i64 (j : Nat) ∧ Hid (l = (bk 3).take j) ∧ l.length ≤ 256 ∧ wr.ownsRow w.heap.size 2 1 o l.length (is l) ∧ Below w.heap.size w wr) (fun i _ _ => 256 - (intOf i).toNat)
  case atStart => exact ⟨0, [], by omega, rfl, Lib.hid rfl, by simp, hown0, (Below.refl _ w).alloc (Nat.le_refl _) _⟩
  case round =>
    obtain ⟨j, l, hj, rfl, hl, hll, hown, hB⟩ := hrel
    by_cases hlt : j < 256
    · obtain ⟨x, hx⟩ : ∃ x : Int, x = (j : Int) := ⟨_, rfl⟩
      have hsn : Hid ((bk 3).take (j + 1) = l ++ [x]) := by
        rw [Hid, hl.out, bk_snoc 3 (by omega) _ hlt, line_3 j hlt, hx]
      clear hl
      have Hx := Lib.hid hx
      clear hx
      go_wp2_with (at_builtin; go_must (refine wpList_app1 _ rfl _ _ 34 2 (.int .i64 0) 8 rfl Tryz.underlying34 info_i64 rfl w.heap.size (.int .i64 (j : Int)) rfl _ l.length (is l) rfl (hown.alloc _) ⟨wr.heap.size, 0, none⟩ rfl (by simp) (by omega) (by omega) (by have := hB.size; simp; omega) ?_; intro v' w1 hown' hgrow; obtain ⟨g', cap', rfl⟩ := ownsRow_succ hown'; obtain ⟨hbl, hko⟩ := bx_app hown hB.size hgrow))
      refine ⟨⟨j + 1, l ++ [x], by omega, by go_num, Lib.hid hsn.out.symm, by rw [← hsn.out, List.length_take, bk_len 3 (by omega)]; omega, ?_, hB.trans (hbl.mono (by omega))⟩, by simp [intOf]; omega⟩
      rw [is_snoc, List.length_append, List.length_singleton]; rw [Hx.out]; exact hown'
    · obtain rfl : j = 256 := by omega
      have hL : l = bk 3 := by rw [hl.out, List.take_of_length_le (by rw [bk_len 3 (by omega)]; omega)]
      have HL := Lib.hid hL
      clear hL hl
      go_wp2
      go_ret2
      refine ⟨_, rfl, ?_, hB⟩
      rw [← HL.out]
      exact IsI.of_own hown

set_option maxHeartbeats 1000000 in
theorem rbook_0 (w : World) : Calls Tryz.prog 41 #[.int .i64 0] w fun e w' => ∃ v, e = .returned (.tuple #[v, .int .i64 0]) ∧ IsI w' v (bk 0) ∧ Below w.heap.size w w' := by
  have hT := tree_s w
  go_enter Tryz.func41, Tryz.ntmps41
  go_wp2_with fail
  refine hT.mono ?_
  rintro e w1 ⟨v, rfl, h1, b1⟩
  go_wp2
  go_ret2
  exact ⟨_, rfl, h1, b1⟩

set_option maxHeartbeats 1000000 in
theorem rbook_1 (w : World) : Calls Tryz.prog 41 #[.int .i64 1] w fun e w' => ∃ v, e = .returned (.tuple #[v, .int .i64 0]) ∧ IsI w' v (bk 1) ∧ Below w.heap.size w w' := by
  have hT := tree_u w
  go_enter Tryz.func41, Tryz.ntmps41
  go_wp2_with fail
  refine hT.mono ?_
  rintro e w1 ⟨v, rfl, h1, b1⟩
  go_wp2
  go_ret2
  exact ⟨_, rfl, h1, b1⟩

set_option maxHeartbeats 1000000 in
theorem rbook_none (k : Int) (w : World) (h0 : (k == 0) = false) (h1 : (k == 1) = false) (h2 : (k == 2) = false) (h3 : (k == 3) = false) : Calls Tryz.prog 41 #[.int .i64 k] w fun e w' => e = .returned (.tuple #[.slice none 0 0, .int .i64 1]) ∧ w = w' := by
  have h4 : (k != 2) = true := by simpa using h2
  have h5 : (k != 3) = true := by simpa using h3
  go_enter Tryz.func41, Tryz.ntmps41
  go_wp2
  go_ret2
  exact ⟨rfl, rfl⟩
theorem rbook_any (k : Int) (w : World) :
    Calls Tryz.prog 41 #[.int .i64 k] w fun e w' => ∃ v, e = .returned (.tuple #[v, .int .i64 (bke k)]) ∧ IsI w' v (bkz k) ∧ Below w.heap.size w w' := by
  rcases kind_cases k with rfl | rfl | rfl | rfl | ⟨h0, h1, h2, h3⟩
  · exact rbook_0 w
  · exact rbook_1 w
  · exact rbook_2 w
  · exact rbook_3 w
  · refine (rbook_none k w h0 h1 h2 h3).mono ?_
    rintro e w' ⟨rfl, rfl⟩
    simp only [beq_eq_false_iff_ne] at h0 h1 h2 h3
    refine ⟨_, by rw [bke, if_neg (by omega)], ?_, Below.refl _ _⟩
    rw [bkz, if_neg h0, if_neg h1, if_neg h2, if_neg h3]
    exact IsI.nil _
end Go.Proofs.YtochabikpaoalaaGreat
