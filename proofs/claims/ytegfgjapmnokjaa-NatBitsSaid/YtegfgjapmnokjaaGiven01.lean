/- 'given': are numbers right, and of few limbs? -/
import Derived.Test.YtegfgjapmnokjaaLaw01
import Derived.Deep.DeepMust
namespace Go.Proofs.Ytegfgjapmnokjaa
open Go.RowKit

def good (l : List Nat) : Bool := decide (l.length ≤ 20) && decide (l = [] ∨ lat l (l.length - 1) ≠ 0)
theorem good_iff (l : List Nat) : good l = true ↔ l.length ≤ 20 ∧ Rt l := by simp [good, Rt]

set_option maxHeartbeats 1000000 in
theorem given_any (A : Option Addr) (c : Nat) (vs : List (Value × List Nat)) (w : World) (hr : Reads w w.heap.size 1 A vs.length (vs.map (·.1))) (h : ∀ p ∈ vs, IsL w p.1 p.2) (hl : vs.length ≤ 1000) :
    Calls Try.prog 16 #[.slice A vs.length c] w fun e w' => e = .returned (.bool (vs.all fun p => good p.2)) ∧ w = w' := by
  go_enter Try.func16, Try.ntmps16
  go_wp2
  go_loop [3] (fun i => ∃ k : Nat, k ≤ vs.length ∧ i = .int .i64 k ∧ Hid ((vs.take k).all (fun p => good p.2) = true)) (fun i => vs.length - (intOf i).toNat)
  case atStart => exact ⟨0, Nat.zero_le _, rfl, rfl⟩
  case round =>
    obtain ⟨k, hk, rfl, hg⟩ := hrel
    by_cases hlt : k < vs.length
    · obtain ⟨ad, u, rfl, _, hx, hcell⟩ := hr.at_ hlt
      rw [List.getElem?_map, List.getElem?_eq_getElem hlt] at hx
      obtain rfl := Option.some.inj hx
      have hp := h _ (List.getElem_mem hlt)
      have e1 := List.take_succ_eq_append_getElem hlt
      have hin := List.getElem_mem hlt
      generalize vs[k] = p at *
      obtain ⟨v, l⟩ := p
      dsimp only at hp hcell
      have hp0 := hp
      obtain ⟨B, cb, rfl, hcb⟩ := hp
      have E1 := Lib.hid e1
      have F := Lib.hid (rfew_any _ l w hp0)
      have R := Lib.hid (rright_any _ l w hp0)
      clear hx e1
      have hbad : good l = false → Hid ((vs.all fun p => good p.2) = false) := fun hb => by
        rw [Hid, List.all_eq_false]; exact ⟨_, hin, by simpa using hb⟩
      by_cases g1 : l.length ≤ 20
      · have q1 : decide (l.length ≤ 20) = true := decide_eq_true g1
        by_cases g2 : l = [] ∨ lat l (l.length - 1) ≠ 0
        · have q2 : decide (l = [] ∨ lat l (l.length - 1) ≠ 0) = true := decide_eq_true g2
          rw [q1] at F
          rw [q2] at R
          have G : Hid ((vs.take (k + 1)).all (fun p => good p.2) = true) := by
            rw [Hid, E1.out, List.all_append, hg.out]; simp [good, q1]; exact g2
          clear g1 g2 q1 q2 hbad
          go_wp2_with fail
          refine F.out.mono ?_
          rintro e w' ⟨rfl, rfl⟩
          go_wp2_with fail
          refine R.out.mono ?_
          rintro e w' ⟨rfl, rfl⟩
          go_wp2
          go_round
          case rel => exact ⟨k + 1, by omega, by go_num, G⟩
          case measure => simp [intOf]; omega
        · have q2 : decide (l = [] ∨ lat l (l.length - 1) ≠ 0) = false := decide_eq_false g2
          rw [q1] at F
          rw [q2] at R
          have B := hbad (by rw [good, q2, Bool.and_false])
          clear g1 g2 q1 q2 hbad
          go_wp2_with fail
          refine F.out.mono ?_
          rintro e w' ⟨rfl, rfl⟩
          go_wp2_with fail
          refine R.out.mono ?_
          rintro e w' ⟨rfl, rfl⟩
          go_wp2
          go_ret
          exact ⟨ret_bool B.out.symm, rfl⟩
      · have q1 : decide (l.length ≤ 20) = false := decide_eq_false g1
        rw [q1] at F
        have B := hbad (by rw [good, q1, Bool.false_and])
        clear g1 q1 hbad
        go_wp2_with fail
        refine F.out.mono ?_
        rintro e w' ⟨rfl, rfl⟩
        go_wp2
        go_ret
        exact ⟨ret_bool B.out.symm, rfl⟩
    · obtain rfl : k = vs.length := by omega
      have hg' := hg.out
      rw [List.take_length] at hg'
      have G := Lib.hid hg'
      clear hg'
      go_wp2
      go_ret
      exact ⟨ret_bool G.out.symm, rfl⟩
end Go.Proofs.Ytegfgjapmnokjaa
