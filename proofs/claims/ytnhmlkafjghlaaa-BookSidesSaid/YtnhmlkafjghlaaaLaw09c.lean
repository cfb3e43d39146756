/- The laws of layer 9 without the document's answer: SIDES. -/
import Derived.Test.YtnhmlkafjghlaaaLaw09b
namespace Go.Proofs.Ytnhmlkafjghlaaa
open Go.ChangeShapes Go.WideShapes Go.ChangeAt Go.RowKit

set_option maxRecDepth 100000 in
set_option maxHeartbeats 2000000 in
theorem BookSides_none (k : Int) (at_ : Nat) (w : World) (h : ¬ (0 ≤ k ∧ k ≤ 3)) : Calls Try.prog 6 #[.int .i64 k, .int .u8 (at_ : Nat)] w fun e w' => e = .returned (.bool true) ∧ Below w.heap.size w w' := by
  obtain ⟨hg, hd, hb, he⟩ := gap_none k h
  have hB := book_any k w
  rw [hb, he] at hB
  clear hg hd hb he
  go_enter Try.func6, Try.ntmps6
  go_wp2_with fail
  refine hB.mono ?_
  rintro e w1 ⟨v, rfl, ⟨A, c, rfl, _⟩, b1⟩
  go_wp2_with fail
  refine (alive09_any _).mono ?_
  rintro e w2 ⟨rfl, b2⟩
  have b2 := b1.trans (b2.mono b1.size)
  go_wp2
  go_ret
  exact ⟨rfl, b2⟩
set_option maxRecDepth 100000 in
set_option maxHeartbeats 2000000 in
theorem BookSides_plain (k : Int) (l : List Int) (at_ : Nat) (w : World) (hlen : l.length = 256)
    (hB : Calls Try.prog 8 #[.int .i64 k] w fun e w' => ∃ v, e = .returned (.tuple #[v, .int .i64 0]) ∧ IsI w' v l ∧ Below w.heap.size w w')
    (hS : ∀ w, Calls Try.prog 16 #[.int .i64 k] w fun e w' => e = .returned (.bool false) ∧ w = w') :
    Calls Try.prog 6 #[.int .i64 k, .int .u8 (at_ : Nat)] w fun e w' => e = .returned (.bool true) ∧ Below w.heap.size w w' := by
  go_enter Try.func6, Try.ntmps6
  go_wp2_with fail
  refine hB.mono ?_
  rintro e w1 ⟨v, rfl, ⟨A, c, rfl, _⟩, b1⟩
  rw [hlen]
  clear hlen
  go_wp2_with fail
  refine (hS _).mono ?_
  rintro e w' ⟨rfl, rfl⟩
  go_wp2_with fail
  refine (alive09_any _).mono ?_
  rintro e w2 ⟨rfl, b2⟩
  have b2 := b1.trans (b2.mono b1.size)
  go_wp2
  go_ret
  exact ⟨rfl, b2⟩
set_option maxRecDepth 100000 in
set_option maxHeartbeats 4000000 in
theorem BookSides_signed (k : Int) (l : List Int) (f : Bool) (at_ : Nat) (hat : at_ < 256) (w : World)
    (hlen : l.length = 256) (hin : inb l = true) (hf : anyTo l (-(iat l at_)) 256 = f) (hcase : (k = 0 ∧ at_ = 255 ∧ f = false) ∨ (k = 0 ∧ at_ ≠ 255 ∧ f = true) ∨ (k = 2 ∧ f = true))
    (hB : Calls Try.prog 8 #[.int .i64 k] w fun e w' => ∃ v, e = .returned (.tuple #[v, .int .i64 0]) ∧ IsI w' v l ∧ Below w.heap.size w w')
    (hS : ∀ w, Calls Try.prog 16 #[.int .i64 k] w fun e w' => e = .returned (.bool true) ∧ w = w') :
    Calls Try.prog 6 #[.int .i64 k, .int .u8 (at_ : Nat)] w fun e w' => e = .returned (.bool true) ∧ Below w.heap.size w w' := by
  have Hf := Lib.hid hf
  clear hf
  have Hcase := Lib.hid hcase
  clear hcase
  obtain ⟨hi1, hi2⟩ := inb_at hin at_
  clear hin
  go_enter Try.func6, Try.ntmps6
  go_wp2_with fail
  refine hB.mono ?_
  rintro e w1 ⟨v, rfl, h1, b1⟩
  clear hB
  obtain ⟨ad, c, rfl, hc1, hc2, hadb, _, hcell⟩ := h1.open_ (by omega)
  rw [hlen] at hc1 hcell
  rw [hlen]
  clear hlen h1
  have hcs : Hid (∀ j, j < 256 → w1.cell? (ad.add j) = some (.int .i64 (iat l j))) := Lib.hid hcell
  have cat := hcell at_ hat
  clear hcell
  go_wp2_with fail
  refine (hS _).mono ?_
  rintro e w' ⟨rfl, rfl⟩
  go_wp2
  have hge' : ((0 : Int) ≤ (at_ : Int)) := by omega
  have hlt2' : (at_ : Int) < 256 := by omega
  go_loopw [7, 8] (fun n i wr => ∃ (j q : Nat), j ≤ 256 ∧ i = .int .i64 j ∧ n = .bool (anyTo l (-(iat l at_)) j) ∧ wr = w1.drewN q) (fun _ i _ => 256 - (intOf i).toNat)
  case atStart => exact ⟨0, 0, by omega, rfl, rfl, rfl⟩
  case round =>
    obtain ⟨j, q, hj, rfl, rfl, rfl⟩ := hrel
    by_cases hlt : j < 256
    · have cj := hcs.out j hlt
      have hsu := Lib.hid (anyTo_succ l (-(iat l at_)) j)
      have hge1 : ((0 : Int) ≤ (j : Int)) := by omega
      have hlt1 : (j : Int) < 256 := by omega
      cases hb : anyTo l (-(iat l at_)) j
      all_goals
        rw [hb] at hsu
        have Hsu := Lib.hid hsu.out
        clear hsu hb
        go_wp2
        go_quiet (fail)
        all_goals go_wp2
        refine ⟨⟨j + 1, _, by omega, by go_num, ?_, rfl⟩, by simp [intOf]; omega⟩
        rw [Hsu.out]; simp
    · obtain rfl : j = 256 := by omega
      rw [Hf.out]
      go_wp2_with fail
      refine (alive09_any _).mono ?_
      rintro e w2 ⟨rfl, b2⟩
      have b2 := (below_drewN b1 q).trans (b2.mono (by simpa using b1.size))
      rcases Hcase.out with ⟨rfl, rfl, rfl⟩ | ⟨rfl, h5, rfl⟩ | ⟨rfl, rfl⟩
      · go_wp2
        go_ret
        exact ⟨rfl, b2⟩
      · have h6 : ((at_ : Int) != 255) = true := by simp; omega
        go_wp2
        go_ret
        exact ⟨rfl, b2⟩
      · go_wp2
        go_ret
        exact ⟨rfl, b2⟩
theorem sides0 : ∀ j < 256, anyTo (bk 0) (-(iat (bk 0) j)) 256 = (j != 255) := by decide +kernel
theorem sides2 : ∀ j < 256, anyTo (bk 2) (-(iat (bk 2) j)) 256 = true := by decide +kernel
end Go.Proofs.Ytnhmlkafjghlaaa
