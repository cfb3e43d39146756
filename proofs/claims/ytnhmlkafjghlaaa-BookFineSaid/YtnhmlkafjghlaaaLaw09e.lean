/- The laws of layer 9 without the document's answer: FINE. -/
import Derived.Test.YtnhmlkafjghlaaaLaw09b
namespace Go.Proofs.Ytnhmlkafjghlaaa
open Go.ChangeShapes Go.WideShapes Go.ChangeAt Go.RowKit

def fineOK (k : Nat) : Bool := (List.range 254).all fun j =>
  let a := iat (bk k) (j + 1) - iat (bk k) j; let b := iat (bk k) (j + 2) - iat (bk k) (j + 1)
  if k = 2 ∨ k = 3 then a == b else decide (0 < a) && decide (0 < b) && decide (b ≤ 10 * a) && decide (a ≤ 10 * b) && decide (b ≤ gz k)
theorem fine_ok : ∀ k < 4, fineOK k = true := by decide +kernel

set_option maxRecDepth 100000 in
set_option maxHeartbeats 2000000 in
theorem BookFine_none (k : Int) (at_ : Nat) (w : World) (h : ¬ (0 ≤ k ∧ k ≤ 3)) : Calls Try.prog 7 #[.int .i64 k, .int .u8 (at_ : Nat)] w fun e w' => e = .returned (.bool true) ∧ Below w.heap.size w w' := by
  obtain ⟨hg, hd, hb, he⟩ := gap_none k h
  have hB := book_any k w
  rw [hb, he] at hB
  clear hg hd hb he
  go_enter Try.func7, Try.ntmps7
  go_wp2_with fail
  refine hB.mono ?_
  rintro e w1 ⟨v, rfl, ⟨A, c, rfl, _⟩, b1⟩
  go_wp2_with fail
  refine (alive09_any _).mono ?_
  rintro e w2 ⟨rfl, b2⟩
  have b2 := b1.trans (b2.mono b1.size)
  go_wp2
  go_ret
  exact ⟨rfl, b2⟩
set_option maxRecDepth 100000 in
set_option maxHeartbeats 2000000 in
theorem BookFine_end (k : Int) (l : List Int) (at_ : Nat) (w : World) (hlen : l.length = 256) (hat : at_ = 0 ∨ at_ = 255)
    (hB : Calls Try.prog 8 #[.int .i64 k] w fun e w' => ∃ v, e = .returned (.tuple #[v, .int .i64 0]) ∧ IsI w' v l ∧ Below w.heap.size w w') :
    Calls Try.prog 7 #[.int .i64 k, .int .u8 (at_ : Nat)] w fun e w' => e = .returned (.bool true) ∧ Below w.heap.size w w' := by
  rcases hat with rfl | rfl
  all_goals
    go_enter Try.func7, Try.ntmps7
    go_wp2_with fail
    refine hB.mono ?_
    rintro e w1 ⟨v, rfl, ⟨A, c, rfl, _⟩, b1⟩
    rw [hlen]
    go_wp2_with fail
    refine (alive09_any _).mono ?_
    rintro e w2 ⟨rfl, b2⟩
    have b2 := b1.trans (b2.mono b1.size)
    go_wp2
    go_ret
    exact ⟨rfl, b2⟩
set_option maxRecDepth 100000 in
set_option maxHeartbeats 4000000 in
theorem BookFine_mid (k : Int) (l : List Int) (g : Int) (j : Nat) (hj : j < 254) (w : World) (hlen : l.length = 256) (hin : inb l = true)
    (hcase : ((k = 2 ∨ k = 3) ∧ iat l (j + 1) - iat l j = iat l (j + 2) - iat l (j + 1)) ∨ ((k = 0 ∨ k = 1) ∧ 0 < iat l (j + 1) - iat l j ∧ 0 < iat l (j + 2) - iat l (j + 1) ∧ iat l (j + 2) - iat l (j + 1) ≤ 10 * (iat l (j + 1) - iat l j) ∧ iat l (j + 1) - iat l j ≤ 10 * (iat l (j + 2) - iat l (j + 1)) ∧ iat l (j + 2) - iat l (j + 1) ≤ g))
    (hB : Calls Try.prog 8 #[.int .i64 k] w fun e w' => ∃ v, e = .returned (.tuple #[v, .int .i64 0]) ∧ IsI w' v l ∧ Below w.heap.size w w')
    (hG : ∀ w, Calls Try.prog 14 #[.int .i64 k] w fun e w' => e = .returned (.int .i64 g) ∧ Below w.heap.size w w') :
    Calls Try.prog 7 #[.int .i64 k, .int .u8 ((j + 1 : Nat) : Int)] w fun e w' => e = .returned (.bool true) ∧ Below w.heap.size w w' := by
  have i0 := inb_at hin j
  have i1 := inb_at hin (j + 1)
  have i2 := inb_at hin (j + 2)
  obtain ⟨a, ha⟩ : ∃ a, a = j + 1 := ⟨_, rfl⟩
  obtain ⟨b, hb⟩ : ∃ b, b = j + 2 := ⟨_, rfl⟩
  rw [← ha] at hcase i1 ⊢
  rw [← hb] at hcase i2
  have hw0 : IntKind.u8.wrap ((a : Int) - 1) = (j : Int) := by rw [IntKind.wrap_u8]; omega
  have hw1 : IntKind.i64.wrap ((a : Int) + 1) = (b : Int) := by rw [IntKind.wrap_i64]; omega
  have hw5 : IntKind.i64.wrap (a : Int) = (a : Int) := by rw [IntKind.wrap_i64]; omega
  have hw2 : IntKind.i64.wrap (iat l a - iat l j) = iat l a - iat l j := by rw [IntKind.wrap_i64]; omega
  have hw3 : IntKind.i64.wrap (iat l b - iat l a) = iat l b - iat l a := by rw [IntKind.wrap_i64]; omega
  have g0 : (0 : Int) ≤ (j : Int) := by omega
  have g1 : (j : Int) < 256 := by omega
  have g2 : (0 : Int) ≤ (a : Int) := by omega
  have g3 : (a : Int) < 256 := by omega
  have g4 : (0 : Int) ≤ (b : Int) := by omega
  have g5 : (b : Int) < 256 := by omega
  have g6 : ¬ ((a : Int) < 1) := by omega
  have g7 : ¬ (254 < (a : Int)) := by omega
  have g8 : decide ((a : Int) < 1) = false := by simp; omega
  have g9 : decide (254 < (a : Int)) = false := by simp; omega
  have g10 : decide (254 < a) = false := by simp; omega
  have g11 : decide (a < 1) = false := by simp; omega
  have Hcase := Lib.hid hcase
  clear hcase
  have Ha := Lib.hid ha
  have Hb := Lib.hid hb
  clear ha hb hin
  go_enter Try.func7, Try.ntmps7
  go_wp2_with fail
  refine hB.mono ?_
  rintro e w1 ⟨v, rfl, h1, b1⟩
  clear hB
  obtain ⟨ad, c, rfl, hc1, hc2, hadb, hcell0, hcell⟩ := h1.open_ (by omega)
  rw [hlen] at hc1 hcell
  rw [hlen]
  have hca := hcell a (by omega)
  have hcb := hcell b (by omega)
  have hcj := hcell j (by omega)
  clear hlen h1 hcell
  go_wp2
  go_quiet (fail)
  obtain ⟨x, hx⟩ : ∃ x, x = iat l a - iat l j := ⟨_, rfl⟩
  obtain ⟨y, hy⟩ : ∃ y, y = iat l b - iat l a := ⟨_, rfl⟩
  have x1 : -5120000000 ≤ x ∧ x ≤ 5120000000 := by omega
  have y1 : -5120000000 ≤ y ∧ y ≤ 5120000000 := by omega
  have Hc := Hcase.out
  rw [← hx, ← hy] at Hc ⊢
  have Hx := Lib.hid hx
  have Hy := Lib.hid hy
  clear hx hy hw2 hw3
  have b1 := below_drewN b1 nq
  rcases Hc with ⟨hk, he⟩ | ⟨hk, hc⟩
  · rw [← he]
    clear he
    rcases hk with rfl | rfl
    all_goals
      go_wp2_with fail
      refine (alive09_any _).mono ?_
      rintro e w2 ⟨rfl, b2⟩
      have b2 := b1.trans (b2.mono b1.size)
      go_wp2
      go_ret
      exact ⟨rfl, b2⟩
  · obtain ⟨c1, c2, c3, c4, c5⟩ := hc
    rcases hk with rfl | rfl
    all_goals
      go_wp2_with fail
      refine (alive09_any _).mono ?_
      rintro e w2 ⟨rfl, b2⟩
      have b2 := b1.trans (b2.mono b1.size)
      go_wp2_with fail
      refine (hG _).mono ?_
      rintro e w3 ⟨rfl, b3⟩
      have b3 := b2.trans (b3.mono b2.size)
      go_wp2
      go_ret
      exact ⟨rfl, b3⟩
end Go.Proofs.Ytnhmlkafjghlaaa
