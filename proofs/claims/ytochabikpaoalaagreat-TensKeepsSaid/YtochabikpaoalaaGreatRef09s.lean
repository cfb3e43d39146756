/- The document's 'are two rows the same?' of layer 9. -/
import Derived.Test.YtochabikpaoalaaGreatApp
import Derived.Test.YtochabikpaoalaaGreatBase
namespace Go.Proofs.YtochabikpaoalaaGreat
open Go.RowKit

set_option maxHeartbeats 1000000 in
/-- are two rows the same: equal lists -/
theorem same_any (va vb : Value) (a b : List Int) (w : World) (ha : IsI w va a) (hb : IsI w vb b) :
    Calls Tryz.prog 16 #[va, vb] w fun e w' => e = .returned (.bool (decide (a = b))) ∧ ∃ n, w' = w.drewN n := by
  obtain ⟨A, ca, rfl, hca1, hca2, hra⟩ := ha
  obtain ⟨B, cb, rfl, hcb1, hcb2, hrb⟩ := hb
  generalize hd : decide (a = b) = d
  have Hd := Lib.hid hd
  clear hd
  by_cases hlen : a.length = b.length
  · have hne : ((a.length : Int) != (b.length : Int)) = false := by simp [hlen]
    have hne2 : decide (a.length = b.length) = true := decide_eq_true hlen
    have Hlen := Lib.hid hlen
    go_enter Tryz.func16, Tryz.ntmps16
    go_wp2
    go_loopw [5] (fun i wr => ∃ (j n : Nat), j ≤ a.length ∧ i = .int .i64 j ∧ Hid (a.take j = b.take j) ∧ wr = w.drewN n) (fun i _ => a.length - (intOf i).toNat)
    case atStart => exact ⟨0, 0, by omega, rfl, Lib.hid rfl, rfl⟩
    case round =>
      obtain ⟨j, n, hj, rfl, htk, rfl⟩ := hrel
      have Hne := Lib.hid (And.intro hne hne2)
      clear hne hne2 hlen
      by_cases hlt : j < a.length
      · have hltb : j < b.length := by have := Hlen.out; omega
        obtain ⟨ada, rfl, _, cja⟩ := is_cell hra hlt
        obtain ⟨adb, rfl, _, cjb⟩ := is_cell hrb hltb
        have i0 : (0 : Int) ≤ (j : Int) := by omega
        have i1 : (j : Int) < (a.length : Int) := by omega
        have i2 : (j : Int) < (b.length : Int) := by omega
        by_cases hx : iat a j = iat b j
        · have hx1 : (iat a j != iat b j) = false := by simp [hx]
          have hx2 : decide (iat a j = iat b j) = true := decide_eq_true hx
          have Hx := Lib.hid hx
          clear hx
          go_wp2
          go_quiet (fail)
          all_goals go_wp2
          refine ⟨⟨j + 1, _, by omega, by go_num, Lib.hid ?_, rfl⟩, by simp [intOf]; omega⟩
          rw [iat_snoc_take _ _ hlt, iat_snoc_take _ _ hltb, htk.out, Hx.out]
        · have hx1 : (iat a j != iat b j) = true := by simpa using hx
          have hx2 : decide (iat a j = iat b j) = false := decide_eq_false hx
          have Hx := Lib.hid hx
          clear hx
          have hab : a ≠ b := fun h => Hx.out (by rw [h])
          have Hab := Lib.hid hab
          clear hab
          go_wp2
          go_quiet (fail)
          all_goals go_wp2
          go_ret
          exact ⟨ret_bool (by rw [← Hd.out]; exact (decide_eq_false Hab.out).symm), n + nq, by rw [World.drewN_drewN]⟩
      · obtain rfl : j = a.length := by omega
        have hab : a = b := by
          have := htk.out
          rwa [List.take_of_length_le (Nat.le_refl _), List.take_of_length_le (by have := Hlen.out; omega)] at this
        have Hab := Lib.hid hab
        clear hab
        go_wp2
        go_ret
        exact ⟨ret_bool (by rw [← Hd.out]; exact (decide_eq_true Hab.out).symm), _, rfl⟩
  · have hab : a ≠ b := fun h => hlen (by rw [h])
    have hne : ((a.length : Int) != (b.length : Int)) = true := by simp; omega
    have hne2 : decide (a.length = b.length) = false := decide_eq_false hlen
    have Hab := Lib.hid hab
    have Hlen := Lib.hid hlen
    clear hab hlen
    go_enter Tryz.func16, Tryz.ntmps16
    go_wp2
    go_ret
    exact ⟨ret_bool (by rw [← Hd.out]; exact (decide_eq_false Hab.out).symm), 0, rfl⟩
end Go.Proofs.YtochabikpaoalaaGreat
