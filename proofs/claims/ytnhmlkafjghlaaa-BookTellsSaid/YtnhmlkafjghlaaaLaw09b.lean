/- The laws of layer 9 without the document's answer: RISING and SIDES. -/
import Derived.Test.YtnhmlkafjghlaaaLaw09
import Derived.Test.YtnhmlkafjghlaaaSmall
import Derived.Test.YtnhmlkafjghlaaaOpen
import Derived.Deep.QuietTactic
import Derived.BigQuiet
import Derived.Outline
namespace Go.Proofs.Ytnhmlkafjghlaaa
open Go.ChangeShapes Go.WideShapes Go.ChangeAt Go.RowKit

/-- is it among the first of them? -/
def anyTo (l : List Int) (x : Int) (j : Nat) : Bool := (List.range j).any fun i => iat l i == x
theorem anyTo_zero (l : List Int) (x : Int) : anyTo l x 0 = false := rfl
theorem anyTo_succ (l : List Int) (x : Int) (j : Nat) : anyTo l x (j + 1) = (anyTo l x j || iat l j == x) := by simp [anyTo, List.range_succ]
def rises (k : Nat) : Bool := (List.range 256).all fun j => j == 0 || decide (iat (bk k) (j - 1) < iat (bk k) j)
theorem rises_ok : ∀ k < 4, rises k = true := by decide +kernel
theorem noughts : ∀ k < 4, anyTo (bk k) 0 256 = (k != 2) := by decide +kernel
theorem firsts : ∀ k < 4, (if sgn (k : Nat) then decide (iat (bk k) 0 < 0) else iat (bk k) 0 == 0) = true := by decide +kernel
theorem rises_at (k : Nat) (hk : k < 4) (j : Nat) (hj : j < 256) (h0 : 0 < j) : iat (bk k) (j - 1) < iat (bk k) j := by
  have := List.all_eq_true.1 (rises_ok k hk) j (by simpa using hj)
  simp at this; omega
theorem wf_u8 {n : Int} (h : (Lit.int .u8 n).wf = true) : 0 ≤ n ∧ n < 256 := by
  have h1 : IntKind.u8.min = 0 := rfl
  have h2 : IntKind.u8.max = 255 := rfl
  simp only [Lit.wf, Bool.and_eq_true, decide_eq_true_eq] at h
  omega
theorem gap_none (k : Int) (h : ¬ (0 ≤ k ∧ k ≤ 3)) : gz k = 0 ∧ den k = 0 ∧ bkz k = [] ∧ bke k = 1 := by
  have hb : bkz k = [] := by rw [bkz, if_neg (by omega), if_neg (by omega), if_neg (by omega), if_neg (by omega)]
  refine ⟨by rw [gz, hb]; rfl, by rw [den, if_neg (by omega), if_neg (by omega)], hb, by rw [bke, if_neg h]⟩

set_option maxRecDepth 100000 in
set_option maxHeartbeats 2000000 in
theorem BookRises_none (k : Int) (at_ : Nat) (w : World) (h : ¬ (0 ≤ k ∧ k ≤ 3)) : Calls Try.prog 4 #[.int .i64 k, .int .u8 (at_ : Nat)] w fun e w' => e = .returned (.bool true) ∧ Below w.heap.size w w' := by
  obtain ⟨hg, hd, hb, he⟩ := gap_none k h
  have hB := book_any k w
  rw [hb, he] at hB
  have hD := fun w => den_any k w
  rw [hd] at hD
  have hG := fun w => gap_any k w
  rw [hg] at hG
  clear hg hd hb he
  go_enter Try.func4, Try.ntmps4
  go_wp2_with fail
  refine hB.mono ?_
  rintro e w1 ⟨v, rfl, ⟨A, c, rfl, _⟩, b1⟩
  go_wp2_with fail
  refine (alive09_any _).mono ?_
  rintro e w2 ⟨rfl, b2⟩
  have b2 := b1.trans (b2.mono b1.size)
  clear b1
  go_wp2_with fail
  refine (hD _).mono ?_
  rintro e w' ⟨rfl, rfl⟩
  go_wp2_with fail
  refine (hG _).mono ?_
  rintro e w3 ⟨rfl, b3⟩
  have b3 := b2.trans (b3.mono b2.size)
  clear b2
  by_cases h0 : k < 0
  · go_wp2
    go_ret
    exact ⟨rfl, b3⟩
  · have h3 : 3 < k := by omega
    go_wp2
    go_ret
    exact ⟨rfl, b3⟩

set_option maxRecDepth 100000 in
set_option maxHeartbeats 4000000 in
theorem BookRises_some (k : Int) (l : List Int) (dk : Int) (s nz : Bool) (at_ : Nat) (hat : at_ < 256) (w : World)
    (hlen : l.length = 256) (h255 : iat l 255 = dk) (hno : anyTo l 0 256 = nz) (hk2 : (k != 2) = nz) (hfi : if s then iat l 0 < 0 else iat l 0 = 0) (hris : 0 < at_ → iat l (at_ - 1) < iat l at_)
    (hB : Calls Try.prog 8 #[.int .i64 k] w fun e w' => ∃ v, e = .returned (.tuple #[v, .int .i64 0]) ∧ IsI w' v l ∧ Below w.heap.size w w')
    (hD : ∀ w, Calls Try.prog 12 #[.int .i64 k] w fun e w' => e = .returned (.int .i64 dk) ∧ w = w')
    (hS : ∀ w, Calls Try.prog 16 #[.int .i64 k] w fun e w' => e = .returned (.bool s) ∧ w = w') :
    Calls Try.prog 4 #[.int .i64 k, .int .u8 (at_ : Nat)] w fun e w' => e = .returned (.bool true) ∧ Below w.heap.size w w' := by
  have Hno := Lib.hid hno
  have Hk2 := Lib.hid hk2
  clear hno hk2
  go_enter Try.func4, Try.ntmps4
  go_wp2_with fail
  refine hB.mono ?_
  rintro e w1 ⟨v, rfl, h1, b1⟩
  clear hB
  obtain ⟨ad, c, rfl, hc1, hc2, hadb, hcell0, hcell⟩ := h1.open_ (by omega)
  rw [hlen] at hc1 hcell
  rw [hlen]
  clear hlen
  have c255 := hcell 255 (by omega)
  rw [h255, Addr.add, if_neg (by omega)] at c255
  have Hcell := Lib.hid hcell
  have cat := hcell at_ hat
  have can := hcell (at_ - 1) (by omega)
  clear hcell h255
  go_wp2
  by_cases h0 : at_ = 0
  · subst h0
    clear cat can hris
    go_quiet ((go_at_call 12; exact quiet_left (hD _)))
    all_goals go_wp2
    obtain ⟨W1, hW1⟩ : ∃ W1, W1 = w1.drewN nq := ⟨_, rfl⟩
    have hc0 : W1.cell? ad = some (.int .i64 (iat l 0)) := by rw [hW1]; exact hcell0
    have hcs : Hid (∀ j, j < 256 → W1.cell? (ad.add j) = some (.int .i64 (iat l j))) := by rw [hW1]; exact Hcell.out
    have hb1 : Below w.heap.size w W1 := by rw [hW1]; exact below_drewN b1 _
    have hadb' : ad.block < W1.heap.size := by rw [hW1]; exact hadb
    rw [← hW1]
    clear hW1 hcell0 Hcell b1 c255
    go_loopw [7, 8, 71, 72, 78] (fun n i _ _ _ wr => ∃ j : Nat, j ≤ 256 ∧ i = .int .i64 j ∧ n = .bool (anyTo l 0 j) ∧ wr = W1) (fun _ i _ _ _ _ => 256 - (intOf i).toNat)
    case atStart => exact ⟨0, by omega, rfl, rfl, rfl⟩
    case round =>
      obtain ⟨j, hj, rfl, rfl, rfl⟩ := hrel
      by_cases hlt : j < 256
      · have cj := hcs.out j hlt
        have hsu := Lib.hid (anyTo_succ l 0 j)
        cases hb : anyTo l 0 j
        all_goals
          rw [hb] at hsu
          have Hsu := Lib.hid hsu.out
          clear hsu hb
          go_wp2
          refine ⟨⟨j + 1, by omega, by go_num, ?_, trivial⟩, by simp [intOf]; omega⟩
          rw [Hsu.out]; simp
      · obtain rfl : j = 256 := by omega
        rw [Hno.out]
        have hk2 := Hk2.out
        go_wp2_with fail
        refine (alive09_any _).mono ?_
        rintro e w2 ⟨rfl, b2⟩
        have hc0 : w2.cell? ad = some (.int .i64 (iat l 0)) := by rw [← hc0]; exact b2.cell hadb'
        have b2 := hb1.trans (b2.mono hb1.size)
        clear hb1
        cases s
        · have hl0 : iat l 0 = 0 := by simpa using hfi
          rw [hl0] at hc0
          clear hfi
          go_wp2_with fail
          refine (hS _).mono ?_
          rintro e w' ⟨rfl, rfl⟩
          go_wp2_with fail
          refine (hS _).mono ?_
          rintro e w' ⟨rfl, rfl⟩
          go_wp2
          go_ret
          exact ⟨rfl, b2⟩
        · have hl0 : iat l 0 < 0 := by simpa using hfi
          clear hfi
          go_wp2_with fail
          refine (hS _).mono ?_
          rintro e w' ⟨rfl, rfl⟩
          go_wp2_with fail
          refine (hS _).mono ?_
          rintro e w' ⟨rfl, rfl⟩
          go_wp2
          go_ret
          exact ⟨rfl, b2⟩
  · have hr := hris (by omega)
    have hcast : ((at_ - 1 : Nat) : Int) = (at_ : Int) - 1 := by omega
    have hd1 : decide (0 < at_) = true := by simpa using Nat.pos_of_ne_zero h0
    have hd2 : decide ((0 : Int) < (at_ : Int)) = true := by simp; omega
    have hd3 : decide (iat l at_ ≤ iat l (at_ - 1)) = false := by simp; omega
    have hw8 : IntKind.u8.wrap ((at_ : Int) - 1) = ((at_ - 1 : Nat) : Int) := by rw [hcast, IntKind.wrap_u8]; omega
    have hge : ((0 : Int) ≤ ((at_ - 1 : Nat) : Int)) := by omega
    have hlt2 : (((at_ - 1 : Nat) : Int)) < 256 := by omega
    have hge' : ((0 : Int) ≤ (at_ : Int)) := by omega
    have hlt2' : (at_ : Int) < 256 := by omega
    have Hh := Lib.hid hcast
    clear hris hr hcast
    go_quiet ((go_at_call 12; exact quiet_left (hD _)))
    all_goals go_wp2
    obtain ⟨W1, hW1⟩ : ∃ W1, W1 = w1.drewN nq := ⟨_, rfl⟩
    have hc0 : W1.cell? ad = some (.int .i64 (iat l 0)) := by rw [hW1]; exact hcell0
    have hcs : Hid (∀ j, j < 256 → W1.cell? (ad.add j) = some (.int .i64 (iat l j))) := by rw [hW1]; exact Hcell.out
    have hb1 : Below w.heap.size w W1 := by rw [hW1]; exact below_drewN b1 _
    have hadb' : ad.block < W1.heap.size := by rw [hW1]; exact hadb
    rw [← hW1]
    clear hW1 hcell0 Hcell b1 c255
    go_loopw [7, 8, 71, 72, 78] (fun n i _ _ _ wr => ∃ j : Nat, j ≤ 256 ∧ i = .int .i64 j ∧ n = .bool (anyTo l 0 j) ∧ wr = W1) (fun _ i _ _ _ _ => 256 - (intOf i).toNat)
    case atStart => exact ⟨0, by omega, rfl, rfl, rfl⟩
    case round =>
      obtain ⟨j, hj, rfl, rfl, rfl⟩ := hrel
      by_cases hlt : j < 256
      · have cj := hcs.out j hlt
        have hsu := Lib.hid (anyTo_succ l 0 j)
        cases hb : anyTo l 0 j
        all_goals
          rw [hb] at hsu
          have Hsu := Lib.hid hsu.out
          clear hsu hb
          go_wp2
          refine ⟨⟨j + 1, by omega, by go_num, ?_, trivial⟩, by simp [intOf]; omega⟩
          rw [Hsu.out]; simp
      · obtain rfl : j = 256 := by omega
        rw [Hno.out]
        have hk2 := Hk2.out
        go_wp2_with fail
        refine (alive09_any _).mono ?_
        rintro e w2 ⟨rfl, b2⟩
        have hc0 : w2.cell? ad = some (.int .i64 (iat l 0)) := by rw [← hc0]; exact b2.cell hadb'
        have b2 := hb1.trans (b2.mono hb1.size)
        clear hb1
        cases s
        · have hl0 : iat l 0 = 0 := by simpa using hfi
          rw [hl0] at hc0
          clear hfi
          go_wp2_with fail
          refine (hS _).mono ?_
          rintro e w' ⟨rfl, rfl⟩
          go_wp2_with fail
          refine (hS _).mono ?_
          rintro e w' ⟨rfl, rfl⟩
          go_wp2
          go_ret
          exact ⟨rfl, b2⟩
        · have hl0 : iat l 0 < 0 := by simpa using hfi
          clear hfi
          go_wp2_with fail
          refine (hS _).mono ?_
          rintro e w' ⟨rfl, rfl⟩
          go_wp2_with fail
          refine (hS _).mono ?_
          rintro e w' ⟨rfl, rfl⟩
          go_wp2
          go_ret
          exact ⟨rfl, b2⟩
end Go.Proofs.Ytnhmlkafjghlaaa
