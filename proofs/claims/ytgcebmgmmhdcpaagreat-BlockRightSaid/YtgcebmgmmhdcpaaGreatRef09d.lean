/- The document's codebooks of layer 9, every kind; gaps. -/
import Derived.Test.YtgcebmgmmhdcpaaGreatRef09
import Derived.Test.YtgcebmgmmhdcpaaGreatRef09s
import Derived.Test.YtgcebmgmmhdcpaaGreatLaw09b
import Derived.Deep.RegionLaw
import Derived.RegionTactic
namespace Go.Proofs.YtgcebmgmmhdcpaaGreat
open Go.RowKit Go.Shelf

theorem line_2 : ∀ j < 256, iat (bk 2) j = 2 * (j : Int) - 255 := by decide +kernel
theorem line_3 : ∀ j < 256, iat (bk 3) j = (j : Int) := by decide +kernel

set_option maxRecDepth 100000 in
set_option maxHeartbeats 1000000 in
theorem rbook_2 (w : World) : Calls Tryz.prog 33 #[.int .i64 2] w fun e w' => ∃ v, e = .returned (.tuple #[v, .int .i64 0]) ∧ IsI w' v (bk 2) ∧ Below w.heap.size w w' := by
  have hown0 := World.ownsRow_lit w #[] 0 (base := w.heap.size) (e := 2) (size := 1) (Nat.le_refl _) (by unfold maxLen; omega) rfl
  go_enter Tryz.func33, Tryz.ntmps33
  go_wp2
  go_loopw [5, 4] (fun i o wr => ∃ (j : Nat) (l : List Int), j ≤ 256 ∧ i = .int .i64 (j : Nat) ∧ Hid (l = (bk 2).take j) ∧ l.length ≤ 256 ∧ wr.ownsRow w.heap.size 2 1 o l.length (is l) ∧ Below w.heap.size w wr) (fun i _ _ => 256 - (intOf i).toNat)
  case atStart => exact ⟨0, [], by omega, rfl, Lib.hid rfl, by simp, hown0, (Below.refl _ w).alloc (Nat.le_refl _) _⟩
  case round =>
    obtain ⟨j, l, hj, rfl, hl, hll, hown, hB⟩ := hrel
    by_cases hlt : j < 256
    · obtain ⟨x, hx⟩ : ∃ x : Int, x = 2 * (j : Int) - 255 := ⟨_, rfl⟩
      have hsn : Hid ((bk 2).take (j + 1) = l ++ [x]) := by
        rw [Hid, hl.out, bk_snoc 2 (by omega) _ hlt, line_2 j hlt, hx]
      clear hl
      have hw1 : IntKind.i64.wrap (2 * (j : Int)) = 2 * (j : Int) := by rw [IntKind.wrap_i64]; omega
      have hw2 : IntKind.i64.wrap (2 * (j : Int) - 255) = x := by rw [hx, IntKind.wrap_i64]; omega
      have Hx := Lib.hid hx
      clear hx
      go_wp2_with (at_builtin; go_must (refine wpList_app1 _ rfl _ _ 23 2 (.int .i64 0) 8 rfl Tryz.underlying23 info_i64 rfl w.heap.size (.int .i64 x) rfl _ l.length (is l) rfl (hown.alloc _) ⟨wr.heap.size, 0, none⟩ rfl (by simp) (by omega) (by omega) (by have := hB.size; simp; omega) ?_; intro v' w1 hown' hgrow; obtain ⟨g', cap', rfl⟩ := ownsRow_succ hown'; obtain ⟨hbl, hko⟩ := bx_app hown hB.size hgrow))
      refine ⟨⟨j + 1, l ++ [x], by omega, by go_num, Lib.hid hsn.out.symm, by rw [← hsn.out, List.length_take, bk_len 2 (by omega)]; omega, ?_, hB.trans (hbl.mono (by omega))⟩, by simp [intOf]; omega⟩
      rw [is_snoc, List.length_append, List.length_singleton]; exact hown'
    · obtain rfl : j = 256 := by omega
      have hL : l = bk 2 := by rw [hl.out, List.take_of_length_le (by rw [bk_len 2 (by omega)]; omega)]
      have HL := Lib.hid hL
      clear hL hl
      go_wp2
      go_ret2
      refine ⟨_, rfl, ?_, hB⟩
      rw [← HL.out]
      exact IsI.of_own hown

set_option maxRecDepth 100000 in
set_option maxHeartbeats 1000000 in
theorem rbook_3 (w : World) : Calls Tryz.prog 33 #[.int .i64 3] w fun e w' => ∃ v, e = .returned (.tuple #[v, .int .i64 0]) ∧ IsI w' v (bk 3) ∧ Below w.heap.size w w' := by
  have hown0 := World.ownsRow_lit w #[] 0 (base := w.heap.size) (e := 2) (size := 1) (Nat.le_refl _) (by unfold maxLen; omega) rfl
  go_enter Tryz.func33, Tryz.ntmps33
  go_wp2
  go_loopw [5, 4] (fun i o wr => ∃ (j : Nat) (l : List Int), j ≤ 256 ∧ i = .int .i64 (j : Nat) ∧ Hid (l = (bk 3).take j) ∧ l.length ≤ 256 ∧ wr.ownsRow w.heap.size 2 1 o l.length (is l) ∧ Below w.heap.size w wr) (fun i _ _ => 256 - (intOf i).toNat)
  case atStart => exact ⟨0, [], by omega, rfl, Lib.hid rfl, by simp, hown0, (Below.refl _ w).alloc (Nat.le_refl _) _⟩
  case round =>
    obtain ⟨j, l, hj, rfl, hl, hll, hown, hB⟩ := hrel
    by_cases hlt : j < 256
    · obtain ⟨x, hx⟩ : ∃ x : Int, x = (j : Int) := ⟨_, rfl⟩
      have hsn : Hid ((bk 3).take (j + 1) = l ++ [x]) := by
        rw [Hid, hl.out, bk_snoc 3 (by omega) _ hlt, line_3 j hlt, hx]
      clear hl
      have Hx := Lib.hid hx
      clear hx
      go_wp2_with (at_builtin; go_must (refine wpList_app1 _ rfl _ _ 23 2 (.int .i64 0) 8 rfl Tryz.underlying23 info_i64 rfl w.heap.size (.int .i64 (j : Int)) rfl _ l.length (is l) rfl (hown.alloc _) ⟨wr.heap.size, 0, none⟩ rfl (by simp) (by omega) (by omega) (by have := hB.size; simp; omega) ?_; intro v' w1 hown' hgrow; obtain ⟨g', cap', rfl⟩ := ownsRow_succ hown'; obtain ⟨hbl, hko⟩ := bx_app hown hB.size hgrow))
      refine ⟨⟨j + 1, l ++ [x], by omega, by go_num, Lib.hid hsn.out.symm, by rw [← hsn.out, List.length_take, bk_len 3 (by omega)]; omega, ?_, hB.trans (hbl.mono (by omega))⟩, by simp [intOf]; omega⟩
      rw [is_snoc, List.length_append, List.length_singleton]; rw [Hx.out]; exact hown'
    · obtain rfl : j = 256 := by omega
      have hL : l = bk 3 := by rw [hl.out, List.take_of_length_le (by rw [bk_len 3 (by omega)]; omega)]
      have HL := Lib.hid hL
      clear hL hl
      go_wp2
      go_ret2
      refine ⟨_, rfl, ?_, hB⟩
      rw [← HL.out]
      exact IsI.of_own hown

set_option maxHeartbeats 1000000 in
theorem rbook_0 (w : World) : Calls Tryz.prog 33 #[.int .i64 0] w fun e w' => ∃ v, e = .returned (.tuple #[v, .int .i64 0]) ∧ IsI w' v (bk 0) ∧ Below w.heap.size w w' := by
  have hT := tree_s w
  go_enter Tryz.func33, Tryz.ntmps33
  go_wp2_with fail
  refine hT.mono ?_
  rintro e w1 ⟨v, rfl, h1, b1⟩
  go_wp2
  go_ret2
  exact ⟨_, rfl, h1, b1⟩

set_option maxHeartbeats 1000000 in
theorem rbook_1 (w : World) : Calls Tryz.prog 33 #[.int .i64 1] w fun e w' => ∃ v, e = .returned (.tuple #[v, .int .i64 0]) ∧ IsI w' v (bk 1) ∧ Below w.heap.size w w' := by
  have hT := tree_u w
  go_enter Tryz.func33, Tryz.ntmps33
  go_wp2_with fail
  refine hT.mono ?_
  rintro e w1 ⟨v, rfl, h1, b1⟩
  go_wp2
  go_ret2
  exact ⟨_, rfl, h1, b1⟩

set_option maxHeartbeats 1000000 in
theorem rbook_none (k : Int) (w : World) (h0 : (k == 0) = false) (h1 : (k == 1) = false) (h2 : (k == 2) = false) (h3 : (k == 3) = false) : Calls Tryz.prog 33 #[.int .i64 k] w fun e w' => e = .returned (.tuple #[.slice none 0 0, .int .i64 1]) ∧ w = w' := by
  have h4 : (k != 2) = true := by simpa using h2
  have h5 : (k != 3) = true := by simpa using h3
  go_enter Tryz.func33, Tryz.ntmps33
  go_wp2
  go_ret2
  exact ⟨rfl, rfl⟩
theorem rbook_any (k : Int) (w : World) :
    Calls Tryz.prog 33 #[.int .i64 k] w fun e w' => ∃ v, e = .returned (.tuple #[v, .int .i64 (bke k)]) ∧ IsI w' v (bkz k) ∧ Below w.heap.size w w' := by
  rcases kind_cases k with rfl | rfl | rfl | rfl | ⟨h0, h1, h2, h3⟩
  · exact rbook_0 w
  · exact rbook_1 w
  · exact rbook_2 w
  · exact rbook_3 w
  · refine (rbook_none k w h0 h1 h2 h3).mono ?_
    rintro e w' ⟨rfl, rfl⟩
    simp only [beq_eq_false_iff_ne] at h0 h1 h2 h3
    refine ⟨_, by rw [bke, if_neg (by omega)], ?_, Below.refl _ _⟩
    rw [bkz, if_neg h0, if_neg h1, if_neg h2, if_neg h3]
    exact IsI.nil _
set_option maxRecDepth 100000 in
set_option maxHeartbeats 2000000 in
theorem rgap_any (k : Int) (w : World) :
    Calls Tryz.prog 23 #[.int .i64 k] w fun e w' => e = .returned (.int .i64 (gz k)) ∧ Below w.heap.size w w' := by
  have hB := rbook_any k w
  by_cases hk : 0 ≤ k ∧ k ≤ 3
  · obtain ⟨hlen, hinb⟩ := bkz_in k hk
    have hin := Lib.hid (inb_at hinb)
    have hgin := Lib.hid (gapTo_in hinb)
    have hmx := @run_max_int Tryz.prog
    have hg : Hid (gz k = gapTo (bkz k) 255) := by rw [Hid, gz, hlen]
    clear hinb
    generalize bkz k = l at hB hlen hin hgin hg
    generalize bke k = ee at hB
    go_enter Tryz.func23, Tryz.ntmps23
    go_wp2_with fail
    refine hB.mono ?_
    rintro e w1 ⟨v, rfl, h1, hbl⟩
    clear hB
    obtain ⟨ad, c, rfl, hc1, hc2, hadb, hcell0, hcell⟩ := h1.open_ (by omega)
    rw [hlen] at hc1 hcell
    rw [hlen]
    clear hlen h1
    have hcs : Hid (∀ j, j < 256 → w1.cell? (ad.add j) = some (.int .i64 (iat l j))) := Lib.hid hcell
    clear hcell
    go_wp2
    go_loopw [6, 5] (fun i g wr => ∃ (j q : Nat), j ≤ 255 ∧ i = .int .i64 ((j + 1 : Nat) : Int) ∧ g = .int .i64 (gapTo l j) ∧ wr = w1.drewN q) (fun i _ _ => 256 - (intOf i).toNat)
    case atStart => exact ⟨0, 0, by omega, rfl, rfl, rfl⟩
    case round =>
      obtain ⟨j, q, hj, rfl, rfl, rfl⟩ := hrel
      by_cases hlt : j < 255
      · have cj := hcs.out j (by omega)
        have cj1 := hcs.out (j + 1) (by omega)
        have i0 := hin.out j
        have i1 := hin.out (j + 1)
        have i2 := hgin.out j
        have hsu : Hid (gapTo l (j + 1) = max (gapTo l j) (iat l (j + 1) - iat l j)) := Lib.hid rfl
        obtain ⟨i, hi⟩ : ∃ i, i = j + 1 := ⟨_, rfl⟩
        have hcast : ((i : Nat) : Int) - 1 = (j : Int) := by omega
        rw [← hi] at cj1 hsu i1 ⊢
        have hge1 : ((0 : Int) ≤ (j : Int)) := by omega
        have hlt1 : (j : Int) < 256 := by omega
        have hge2 : ((0 : Int) ≤ (i : Int)) := by omega
        have hlt2 : (i : Int) < 256 := by omega
        have hw : IntKind.i64.wrap ((i : Int) - 1) = (j : Int) := by rw [hcast, IntKind.wrap_i64]; omega
        have hw2 : IntKind.i64.wrap (iat l i - iat l j) = iat l i - iat l j := by rw [IntKind.wrap_i64]; omega
        have Hi := Lib.hid hi
        clear hi hcast
        go_wp2
        go_region
        all_goals go_wp2
        refine ⟨⟨j + 1, q + 1, by omega, ?_, ?_, rfl⟩, by simp [intOf]; omega⟩
        · rw [← Hi.out]; go_num
        · rw [← Hi.out, hsu.out]
      · obtain rfl : j = 255 := by omega
        go_wp2
        go_ret
        exact ⟨by rw [hg.out]; rfl, below_drewN hbl _⟩
  · obtain ⟨e1, _, e2, e3⟩ := gap_none k hk
    rw [e1]
    rw [e2, e3] at hB
    clear e1 e2 e3
    go_enter Tryz.func23, Tryz.ntmps23
    go_wp2_with fail
    refine hB.mono ?_
    rintro e w1 ⟨v, rfl, ⟨A, c, rfl, _⟩, hbl⟩
    go_wp2
    go_loopw [6, 5] (fun i g wr => i = .int .i64 1 ∧ g = .int .i64 0 ∧ wr = w1) (fun i _ _ => 0)
    case atStart => exact ⟨rfl, rfl, rfl⟩
    case round =>
      obtain ⟨rfl, rfl, rfl⟩ := hrel
      go_wp2
      go_ret
      exact ⟨rfl, hbl⟩
end Go.Proofs.YtgcebmgmmhdcpaaGreat
