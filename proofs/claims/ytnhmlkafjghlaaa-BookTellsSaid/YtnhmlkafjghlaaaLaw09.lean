/- The live question of layer 9. -/
import Derived.Test.YtnhmlkafjghlaaaBook5
import Derived.Test.YtnhmlkafjghlaaaLawRow
namespace Go.Proofs.Ytnhmlkafjghlaaa
open Go.RowKit

/-- a slice of integers that is not empty: where it lies, and its cells -/
theorem IsI.open_ {w : World} {v : Value} {l : List Int} (h : IsI w v l) (hl : 0 < l.length) : ∃ (ad : Addr) (c : Nat), v = .slice (some ad) l.length c ∧ l.length ≤ c ∧ c ≤ 9223372036854775807 ∧ ad.block < w.heap.size ∧ w.cell? ad = some (.int .i64 (iat l 0)) ∧ ∀ j, j < l.length → w.cell? (ad.add j) = some (.int .i64 (iat l j)) := by
  obtain ⟨A, c, rfl, hc1, hc2, hR⟩ := h
  obtain ⟨ad, rfl, hb, h0⟩ := is_cell hR hl
  refine ⟨ad, c, rfl, hc1, hc2, hb, by simpa [Addr.add] using h0, fun j hj => ?_⟩
  obtain ⟨ad', e, _, h⟩ := is_cell hR hj
  cases e; exact h
theorem bkz_nat (k : Nat) (hk : k < 4) : bkz (k : Nat) = bk k := by
  obtain rfl | rfl | rfl | rfl : k = 0 ∨ k = 1 ∨ k = 2 ∨ k = 3 := by omega
  all_goals rfl
theorem gz_3 : gz 3 = 1 := by decide +kernel
theorem at255 : ∀ k < 4, iat (bk k) 255 = den (k : Nat) := by decide +kernel
set_option maxHeartbeats 1000000 in
theorem alive09_any (w : World) : Calls Try.prog 10 #[] w fun e w' => e = .returned (.bool true) ∧ Below w.heap.size w w' := by
  have hg : gz 3 = 1 := gz_3
  have h255 := at255 3 (by omega)
  rw [show den ((3 : Nat) : Int) = 255 from rfl] at h255
  have hlen := bk_len 3 (by omega)
  have hG := fun w => gap_any 3 w
  rw [hg] at hG
  clear hg
  go_enter Try.func10, Try.ntmps10
  go_wp2_with fail
  refine (book_any 3 _).mono ?_
  rintro e w1 ⟨v1, rfl, h1, b1⟩
  rw [show bkz 3 = bk 3 from rfl] at h1
  go_wp2_with fail
  refine (book_any 4 _).mono ?_
  rintro e w2 ⟨v2, rfl, _, b2⟩
  have h1 := h1.below b2
  have b2 := b1.trans (b2.mono b1.size)
  clear b1
  generalize bk 3 = l at *
  obtain ⟨ad, c, rfl, hc1, hc2, _, _, hcell⟩ := h1.open_ (by omega)
  have c255 := hcell 255 (by omega)
  rw [h255, Addr.add, if_neg (by omega)] at c255
  rw [hlen]
  rw [hlen] at hc1
  clear hcell h1 h255
  have Hlen := Lib.hid hlen
  clear hlen
  rw [show bke 3 = 0 from rfl, show bke 4 = 1 from rfl]
  go_wp2_with fail
  refine (show Calls Try.prog 12 #[.int .i64 0] w2 (fun e w' => e = .returned (.int .i64 2560000000) ∧ w2 = w') from den_any 0 w2).mono ?_
  rintro e w' ⟨rfl, rfl⟩
  go_wp2_with fail
  refine (hG _).mono ?_
  rintro e w3 ⟨rfl, b3⟩
  have b3 := b2.trans (b3.mono b2.size)
  clear b2
  go_wp2_with fail
  refine (show Calls Try.prog 16 #[.int .i64 2] w3 (fun e w' => e = .returned (.bool true) ∧ w3 = w') from signed_any 2 w3).mono ?_
  rintro e w' ⟨rfl, rfl⟩
  go_wp2_with fail
  refine (show Calls Try.prog 16 #[.int .i64 1] w3 (fun e w' => e = .returned (.bool false) ∧ w3 = w') from signed_any 1 w3).mono ?_
  rintro e w' ⟨rfl, rfl⟩
  go_wp2
  go_ret
  exact ⟨rfl, b3⟩
end Go.Proofs.Ytnhmlkafjghlaaa
