/- The laws of layer 9 without the document's answer: GAPS. -/
import Derived.Test.YtnhmlkafjghlaaaLaw09b
namespace Go.Proofs.Ytnhmlkafjghlaaa
open Go.ChangeShapes Go.WideShapes Go.ChangeAt Go.RowKit

/-- is the gap among the first ones? -/
def gapIn (l : List Int) (g : Int) (j : Nat) : Bool := (List.range j).any fun i => iat l (i + 1) - iat l i == g
theorem gapIn_succ (l : List Int) (g : Int) (j : Nat) : gapIn l g (j + 1) = (gapIn l g j || iat l (j + 1) - iat l j == g) := by simp [gapIn, List.range_succ]
def gapsOK (k : Nat) : Bool := gapIn (bk k) (gz k) 255 && (List.range 255).all (fun j => decide (iat (bk k) (j + 1) - iat (bk k) j ≤ gz k)) && decide (0 ≤ gz k ∧ gz k ≤ 100000000)
  && decide ((if sgn k then - den k else 0) ≤ iat (bk k) 0 ∧ 2 * (iat (bk k) 0 - (if sgn k then - den k else 0)) ≤ gz k)
theorem gaps_ok : ∀ k < 4, gapsOK k = true := by decide +kernel

set_option maxRecDepth 100000 in
set_option maxHeartbeats 2000000 in
theorem BookGaps_none (k : Int) (w : World) (h : ¬ (0 ≤ k ∧ k ≤ 3)) : Calls Try.prog 5 #[.int .i64 k] w fun e w' => e = .returned (.bool true) ∧ Below w.heap.size w w' := by
  obtain ⟨hg, hd, hb, he⟩ := gap_none k h
  have hB := book_any k w
  rw [hb, he] at hB
  clear hg hd hb he
  go_enter Try.func5, Try.ntmps5
  go_wp2_with fail
  refine hB.mono ?_
  rintro e w1 ⟨v, rfl, ⟨A, c, rfl, _⟩, b1⟩
  go_wp2_with fail
  refine (alive09_any _).mono ?_
  rintro e w2 ⟨rfl, b2⟩
  have b2 := b1.trans (b2.mono b1.size)
  go_wp2
  go_ret
  exact ⟨rfl, b2⟩
set_option maxRecDepth 100000 in
set_option maxHeartbeats 4000000 in
theorem BookGaps_some (k : Int) (l : List Int) (s : Bool) (dk g : Int) (w : World)
    (hlen : l.length = 256) (hin : inb l = true) (hg0 : 0 ≤ g) (hg1 : g ≤ 100000000) (hd0 : 0 ≤ dk) (hd1 : dk ≤ 2560000000) (hall : ∀ j, j < 255 → iat l (j + 1) - iat l j ≤ g) (hsome : gapIn l g 255 = true)
    (hlo : (if s then -dk else 0) ≤ iat l 0) (hlo2 : 2 * (iat l 0 - (if s then -dk else 0)) ≤ g)
    (hB : Calls Try.prog 8 #[.int .i64 k] w fun e w' => ∃ v, e = .returned (.tuple #[v, .int .i64 0]) ∧ IsI w' v l ∧ Below w.heap.size w w')
    (hG : ∀ w, Calls Try.prog 14 #[.int .i64 k] w fun e w' => e = .returned (.int .i64 g) ∧ Below w.heap.size w w')
    (hD : ∀ w, Calls Try.prog 12 #[.int .i64 k] w fun e w' => e = .returned (.int .i64 dk) ∧ w = w')
    (hS : ∀ w, Calls Try.prog 16 #[.int .i64 k] w fun e w' => e = .returned (.bool s) ∧ w = w') :
    Calls Try.prog 5 #[.int .i64 k] w fun e w' => e = .returned (.bool true) ∧ Below w.heap.size w w' := by
  have Hsome := Lib.hid hsome
  have Hall := Lib.hid hall
  clear hsome hall
  have Hin := Lib.hid (fun j => inb_at hin j)
  clear hin
  go_enter Try.func5, Try.ntmps5
  go_wp2_with fail
  refine hB.mono ?_
  rintro e w1 ⟨v, rfl, h1, b1⟩
  clear hB
  go_wp2_with fail
  refine (hG _).mono ?_
  rintro e w2 ⟨rfl, b2⟩
  have h1 := h1.below b2
  have b2 := b1.trans (b2.mono b1.size)
  obtain ⟨ad, c, rfl, hc1, hc2, hadb, hcell0, hcell⟩ := h1.open_ (by omega)
  rw [hlen] at hc1 hcell
  rw [hlen]
  clear hlen h1 b1
  have hcs : Hid (∀ j, j < 256 → w2.cell? (ad.add j) = some (.int .i64 (iat l j))) := Lib.hid hcell
  clear hcell
  go_wp2
  go_loopw [6, 7] (fun n i wr => ∃ (j q : Nat), j ≤ 255 ∧ i = .int .i64 ((j + 1 : Nat) : Int) ∧ n = .bool (gapIn l g j) ∧ wr = w2.drewN q) (fun _ i _ => 256 - (intOf i).toNat)
  case atStart => exact ⟨0, 0, by omega, rfl, rfl, rfl⟩
  case round =>
    obtain ⟨j, q, hj, rfl, rfl, rfl⟩ := hrel
    by_cases hlt : j < 255
    · have cj := hcs.out j (by omega)
      have cj1 := hcs.out (j + 1) (by omega)
      have hle := Hall.out j hlt
      have hsu := Lib.hid (gapIn_succ l g j)
      have i0 := Hin.out j
      have i1 := Hin.out (j + 1)
      obtain ⟨i, hi⟩ : ∃ i, i = j + 1 := ⟨_, rfl⟩
      have hcast : ((i : Nat) : Int) - 1 = (j : Int) := by omega
      rw [← hi] at cj1 hle hsu i1 ⊢
      have hge1 : ((0 : Int) ≤ (j : Int)) := by omega
      have hlt1 : (j : Int) < 256 := by omega
      have hge2 : ((0 : Int) ≤ (i : Int)) := by omega
      have hlt2 : (i : Int) < 256 := by omega
      have hw : IntKind.i64.wrap ((i : Int) - 1) = (j : Int) := by rw [hcast, IntKind.wrap_i64]; omega
      have hw2 : IntKind.i64.wrap (iat l i - iat l j) = iat l i - iat l j := by rw [IntKind.wrap_i64]; omega
      have hd : decide (g < iat l i - iat l j) = false := by simp; omega
      have Hi := Lib.hid hi
      clear hi hcast
      cases hb : gapIn l g j
      all_goals
        rw [hb] at hsu
        have Hsu := Lib.hid hsu.out
        clear hsu hb
        go_wp2
        go_quiet (fail)
        all_goals go_wp2
        go_quiet (fail)
        all_goals go_wp2
        refine ⟨⟨j + 1, _, by omega, ?_, ?_, rfl⟩, by simp [intOf]; omega⟩
        · rw [← Hi.out]; go_num
        · rw [← Hi.out, Hsu.out]; simp
    · obtain rfl : j = 255 := by omega
      rw [Hsome.out]
      have i0 := Hin.out 0
      have hc0 : (w2.drewN q).cell? ad = some (.int .i64 (iat l 0)) := hcell0
      have b2 := below_drewN b2 q
      have hadb : ad.block < (w2.drewN q).heap.size := hadb
      generalize w2.drewN q = w3 at *
      cases s
      all_goals
        simp only [Bool.false_eq_true, if_false, if_true] at hlo hlo2
        go_wp2_with fail
        refine (hS _).mono ?_
        rintro e w' ⟨rfl, rfl⟩
      · go_wp2_with fail
        refine (alive09_any _).mono ?_
        rintro e w4 ⟨rfl, b4⟩
        have hc0 : w4.cell? ad = some (.int .i64 (iat l 0)) := by rw [← hc0]; exact b4.cell hadb
        have b4 := b2.trans (b4.mono b2.size)
        have hlo' : 0 ≤ iat l 0 := by omega
        have hlo2' : 2 * iat l 0 ≤ g := by omega
        go_wp2
        go_ret
        exact ⟨rfl, b4⟩
      · rw [Int.sub_neg] at hlo2
        go_wp2_with fail
        refine (hD _).mono ?_
        rintro e w' ⟨rfl, rfl⟩
        go_wp2_with fail
        refine (alive09_any _).mono ?_
        rintro e w4 ⟨rfl, b4⟩
        have hc0 : w4.cell? ad = some (.int .i64 (iat l 0)) := by rw [← hc0]; exact b4.cell hadb
        have b4 := b2.trans (b4.mono b2.size)
        go_wp2
        go_ret
        exact ⟨rfl, b4⟩
end Go.Proofs.Ytnhmlkafjghlaaa
