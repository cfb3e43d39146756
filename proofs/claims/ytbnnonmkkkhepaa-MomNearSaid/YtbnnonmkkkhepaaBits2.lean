/- How many binary figures a number has: nat.Bits and the reference's. -/
import Derived.Test.YtbnnonmkkkhepaaRef1
import Derived.Test.YtbnnonmkkkhepaaBits
namespace Go.Proofs.Ytbnnonmkkkhepaa
open Go.RowKit

set_option maxHeartbeats 400000 in
theorem rbits_any (v : Value) (a : Nat) (w : World) (h : IsN w v a) (hl : (limbs a).length ≤ 1000000) :
    Calls Try.prog 66 #[v] w fun e w' => e = .returned (.int .i64 (bl a : Nat)) ∧ w = w' := by
  obtain ⟨A, c, rfl, hlc, hc, hbd, hr⟩ := h
  have hrt := limbs_rt a
  have hnum := num_limbs a
  generalize limbs a = l at *
  subst hnum
  by_cases h0 : l = []
  · subst h0
    go_enter Try.func66, Try.ntmps66
    go_wp2
    go_ret
    exact ⟨ret_int (by rw [num, bl_zero]; rfl), rfl⟩
  · have hp : 0 < l.length := List.length_pos_iff.2 h0
    obtain ⟨ad, rfl, _, hx⟩ := us_cell hr (k := l.length - 1) (by omega)
    have e := Lib.hid (bl_num hbd hrt h0)
    have hb64 := bl_le_iff.2 (show lat l (l.length - 1) < 2 ^ 64 from hbd.lat _)
    have e1 : ((l.length : Int) == 0) = false := by simp [h0]
    clear h0 hrt
    go_enter Try.func66, Try.ntmps66
    go_wp2
    go_loop [3, 4] (fun n t => ∃ (k x : Nat), n = .int .i64 (64 * ((l.length : Int) - 1) + (k : Int)) ∧ t = .int .u64 (x : Int) ∧ (x : Int) ≤ 18446744073709551615 ∧ k ≤ 64 ∧ Hid (k + bl x = bl (lat l (l.length - 1)))) (fun _ t => (intOf t).toNat)
    case atStart => exact ⟨0, lat l (l.length - 1), by simp, rfl, by have := hbd.lat (l.length - 1); unfold W64 at this; omega, by omega, Lib.hid (by omega)⟩
    case round =>
      obtain ⟨k, x, rfl, rfl, hxb, hk, hkx⟩ := hrel
      by_cases hx0 : 0 < x
      · have hs : Hid (k + 1 + bl (x / 2) = bl (lat l (l.length - 1))) := by have h1 := hkx.out; have h2 := bl_pos (n := x) (by omega); rw [Hid]; omega
        have hk2 : k + 1 ≤ 64 := by have := hs.out; omega
        go_wp2
        go_round
        case rel => exact ⟨k + 1, x / 2, by go_num, by go_num, by omega, hk2, hs⟩
        case measure => simp [intOf]; omega
      · obtain rfl : x = 0 := by omega
        go_wp2
        go_ret
        have := hkx.out
        rw [bl_zero] at this
        exact ⟨ret_int (by rw [e.out]; omega), rfl⟩
end Go.Proofs.Ytbnnonmkkkhepaa
