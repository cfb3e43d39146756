/- The document's layer 2: division, and the greatest common divisor. -/
import Derived.Test.YtbnnonmkkkhepaaRef02
import Derived.Deep.LoopGhost
namespace Go.Proofs.Ytbnnonmkkkhepaa
open Go.RowKit

theorem divmod_any (va vb : Value) (a b : Nat) (w : World) (ha : IsN w va a) (hb : IsN w vb b) (sa : Sz a 100000) (sb : Sz b 100000) (h0 : 0 < b) :
    Calls Try.prog 46 #[va, vb] w fun e w' => ∃ q r, e = .returned (.tuple #[q, r, .int .i64 0]) ∧ IsN w' q (a / b) ∧ IsN w' r (a % b) ∧ Below w.heap.size w w' := by
  rcases Nat.lt_or_ge (bl a) (bl b) with h | h
  · exact divmod_less va vb a b w ha hb (sa.more (by omega)) (sb.more (by omega)) h0 h
  · exact divmod_in va vb a b w ha hb sa sb h0 h

set_option maxHeartbeats 1000000 in
theorem gcd_any (va vb : Value) (a b : Nat) (w : World) (ha : IsN w va a) (hb : IsN w vb b) (sa : Sz a 100000) (sb : Sz b 100000) :
    Calls Try.prog 45 #[va, vb] w fun e w' => ∃ v', e = .returned v' ∧ IsN w' v' (Nat.gcd a b) ∧ Below w.heap.size w w' := by
  obtain ⟨d, hd⟩ : ∃ d, d = Nat.gcd a b := ⟨_, rfl⟩
  have HD := Lib.hid hd
  rw [← hd]
  clear hd
  go_enter Try.func45, Try.ntmps45
  go_wp2
  go_loopg [0, 1] b (fun k x y wr => ∃ (n : Nat), IsN wr x n ∧ IsN wr y k ∧ Sz n 100000 ∧ Sz k 100000 ∧ Hid (Nat.gcd n k = d) ∧ Below w.heap.size w wr)
  case atStart => exact ⟨a, ha, hb, sa, sb, Lib.hid HD.out.symm, Below.refl _ _⟩
  case round =>
    obtain ⟨n, hx, hy, sx, sy, hg, hB⟩ := hrel
    by_cases h0 : gk = 0
    · subst h0
      obtain ⟨A, c, rfl⟩ := (show ∃ A c, u1 = .slice A 0 c by unfold IsN at hy; rw [limbs_zero] at hy; obtain ⟨A, c, e, _⟩ := hy; exact ⟨A, c, e⟩)
      go_wp2
      go_ret
      exact ⟨_, rfl, by have := hg.out; rw [Nat.gcd_zero_right] at this; rw [← this]; exact hx, hB⟩
    · have hp : 0 < gk := Nat.pos_of_ne_zero h0
      have hL : 0 < (limbs gk).length := by
        rcases Nat.eq_zero_or_pos (limbs gk).length with e | e
        · exact absurd (limbs_nil.1 (List.eq_nil_of_length_eq_zero e)) h0
        · exact e
      have hD := divmod_any u0 u1 n gk wr hx hy sx sy hp
      obtain ⟨A, L, c, rfl, hLe⟩ := hy.open_
      rw [← hLe] at hL
      have HLe := Lib.hid hLe
      have H0 := Lib.hid h0
      clear hLe h0
      go_wp2_with fail
      refine hD.mono ?_
      rintro e w1 ⟨q, r, rfl, hq, hr, b1⟩
      have hy := hy.below b1
      have hB := hB.trans (b1.mono hB.size)
      clear hD hx b1
      go_wp2
      go_roundg (n % gk)
      case rel => exact ⟨gk, hy, hr, sy, sx.le (Nat.mod_le _ _), Lib.hid (by rw [← hg.out, Nat.gcd_comm gk, Nat.gcd_comm n, Nat.gcd_rec gk n]), hB⟩
      case measure => exact Nat.mod_lt _ hp
end Go.Proofs.Ytbnnonmkkkhepaa
