/- The document's trees of layer 9: the unsigned one. -/
import Derived.Test.YtegemdeejbdfpaaRef09b
namespace Go.Proofs.Ytegemdeejbdfpaa
open Go.RowKit Go.Shelf

set_option maxRecDepth 100000 in
set_option maxHeartbeats 2000000 in
theorem tree_u (w : World) : Calls Try.prog 45 #[.bool false] w fun e w' => ∃ v, e = .returned v ∧ IsI w' v (bk 1) ∧ Below w.heap.size w w' := by
  obtain ⟨i0, hi, hz0, hz1, hz2⟩ := info_parts info_i64
  have hown0 := World.ownsRow_lit w #[] 0 (base := w.heap.size) (e := 2) (size := 1) (Nat.le_refl _) (by unfold maxLen; omega) rfl
  go_enter Try.func45, Try.ntmps45
  go_wp2
  go_loopw [4, 3] (fun i o wr => ∃ l : List Int, i = .int .i64 6 ∧ Hid (l = []) ∧ l.length ≤ 10 ∧ wr.ownsRow w.heap.size 2 1 o l.length (is l) ∧ Below w.heap.size w wr) (fun i _ _ => 0)
  case atStart => exact ⟨[], rfl, Lib.hid rfl, by simp, hown0, (Below.refl _ w).alloc (Nat.le_refl _) _⟩
  case round =>
    obtain ⟨l, rfl, hl, hll, hown, hB⟩ := hrel
    have hL : Hid (l ++ [0] = (bk 1).take 1) := by rw [Hid, hl.out]; decide +kernel
    clear hl
    go_wp2_with (at_builtin; go_must (refine wpList_app1 _ rfl _ _ 45 2 (.int .i64 0) 8 rfl Try.underlying45 info_i64 rfl w.heap.size (.int .i64 (0)) rfl _ l.length (is l) rfl (hown.alloc _) ⟨wr.heap.size, 0, none⟩ rfl (by simp) (by omega) (by omega) (by have := hB.size; simp; omega) ?_; intro v' w1 hown' hgrow; obtain ⟨g', cap', rfl⟩ := ownsRow_succ hown'; obtain ⟨hbl, hko⟩ := bx_app hown hB.size hgrow))
    have hB1 := hB.trans (hbl.mono (by omega))
    have hrow1 : w1.ownsRow w.heap.size 2 1 (.slice (some ⟨g', 0, none⟩) (l.length + 1) cap') (l ++ [0]).length (is (l ++ [0])) := by
      rw [is_snoc, List.length_append, List.length_singleton]; exact hown'
    have hl1 : (l ++ [0]).length ≤ 256 := by rw [hL.out, List.length_take, bk_len 1 (by omega)]; omega
    clear hown' hgrow hbl hko
    go_loopw [7, 3] (fun i o wr => ∃ (r n : Nat) (l : List Int), r ≤ 7 ∧ Hid (n = 2 ^ (r + 1)) ∧ n ≤ 256 ∧ 2 ≤ n ∧ i = .int .i64 (r : Nat) ∧ Hid (l = (bk 1).take (n - 1)) ∧ l.length ≤ 256 ∧ wr.ownsRow w.heap.size 2 1 o l.length (is l) ∧ Below w.heap.size w wr) (fun i _ _ => 7 - (intOf i).toNat)
    case atStart => exact ⟨0, 2, _, by omega, Lib.hid rfl, by omega, by omega, rfl, Lib.hid hL.out, hl1, hrow1, hB1⟩
    case round =>
      obtain ⟨r, n, l, hr, hn, hn1, hn2, rfl, hl, hll, hown, hB⟩ := hrel
      by_cases h0 : r = 7
      · subst h0
        obtain rfl : n = 256 := hn.out
        have hL : Hid (l ++ [2560000000] = bk 1) := by rw [Hid, hl.out]; decide +kernel
        clear hn hl
        go_wp2_with (at_builtin; go_must (refine wpList_app1 _ rfl _ _ 45 2 (.int .i64 0) 8 rfl Try.underlying45 info_i64 rfl w.heap.size (.int .i64 (2560000000)) rfl _ l.length (is l) rfl (hown.alloc _) ⟨wr.heap.size, 0, none⟩ rfl (by simp) (by omega) (by omega) (by have := hB.size; simp; omega) ?_; intro v' w1 hown' hgrow; obtain ⟨g', cap', rfl⟩ := ownsRow_succ hown'; obtain ⟨hbl, hko⟩ := bx_app hown hB.size hgrow))
        go_ret
        refine ⟨_, rfl, ?_, hB.trans (hbl.mono (by omega))⟩
        rw [← hL.out]
        exact IsI.of_own (by rw [is_snoc, List.length_append, List.length_singleton]; exact hown')
      · have hM : ∀ W, Calls Try.prog 60 #[.bool false, .int .i64 r] W fun e w' => e = .returned (.int .i64 (n : Nat)) ∧ W = w' := by intro W; rw [hn.out]; exact many_any false r (by omega) W
        have hn4 : n ≤ 128 := by rw [hn.out]; exact Nat.pow_le_pow_right (by omega) (by omega : r + 1 ≤ 7)
        go_wp2_with fail
        refine (hM _).mono ?_
        rintro e w2 ⟨rfl, rfl⟩
        go_wp2
        go_loopw [9, 3] (fun i o wr => ∃ (j : Nat) (l : List Int), j ≤ n ∧ i = .int .i64 (j : Nat) ∧ Hid (l = (bk 1).take (n - 1 + j)) ∧ l.length ≤ 256 ∧ wr.ownsRow w.heap.size 2 1 o l.length (is l) ∧ Below w.heap.size w wr) (fun i _ _ => n - (intOf i).toNat)
        case atStart => exact ⟨0, l, by omega, rfl, Lib.hid hl.out, hll, hown, hB⟩
        case round =>
          obtain ⟨j, l, hj, rfl, hl, hll, hown, hB⟩ := hrel
          by_cases hlt : j < n
          · have hP := part_prt n r j (by omega) (by omega) (by omega) hlt
            have hPi := prt_in n r j (by omega) (by omega) (by omega) hlt
            have hsn : Hid ((bk 1).take (n - 1 + (j + 1)) = l ++ [prt n r j]) := by
              rw [Hid, hl.out, show n - 1 + (j + 1) = (n - 1 + j) + 1 from by omega, bk_snoc 1 (by omega) _ (by omega)]
              have := one_at r (by omega) j (by rw [← hn.out]; omega)
              rw [← hn.out] at this
              rw [← this]
            clear hl
            generalize prt n r j = x at hP hPi hsn
            go_wp2_with fail
            refine (hP _).mono ?_
            rintro e w2 ⟨rfl, rfl⟩
            go_wp2_with (at_builtin; go_must (refine wpList_app1 _ rfl _ _ 45 2 (.int .i64 0) 8 rfl Try.underlying45 info_i64 rfl w.heap.size (.int .i64 (x)) rfl _ l.length (is l) rfl (hown.drew.alloc _) ⟨wr.drew.heap.size, 0, none⟩ rfl (by simp) (by omega) (by omega) (by have := hB.size; simp; omega) ?_; intro v' w1 hown' hgrow; obtain ⟨g', cap', rfl⟩ := ownsRow_succ hown'; obtain ⟨hbl, hko⟩ := bx_app hown.drew (by simpa using hB.size) hgrow))
            refine ⟨⟨j + 1, l ++ [x], by omega, by go_num, Lib.hid hsn.out.symm, by rw [← hsn.out, List.length_take, bk_len 1 (by omega)]; omega, ?_, ?_⟩, ?_⟩
            · rw [is_snoc, List.length_append, List.length_singleton]; exact hown'
            · exact (hB.drew).trans (hbl.mono (by omega))
            · simp [intOf]; omega
          · obtain rfl : j = n := by omega
            have hl2 : Hid (l = (bk 1).take (j * 2 - 1)) := by rw [Hid, hl.out]; congr 1; omega
            go_wp2
            refine ⟨⟨r + 1, j * 2, l, by omega, Lib.hid (by rw [hn.out]; exact (Nat.pow_succ 2 (r + 1)).symm), by omega, by omega, by go_num, hl2, hll, hown, hB⟩, by simp [intOf]; omega⟩
end Go.Proofs.Ytegemdeejbdfpaa
