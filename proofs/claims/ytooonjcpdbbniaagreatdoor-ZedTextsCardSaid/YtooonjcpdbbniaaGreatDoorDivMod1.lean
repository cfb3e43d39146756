/- div.DivMod by one limb. -/
import Derived.Test.YtooonjcpdbbniaaGreatDoorShortD
import Derived.Test.YtooonjcpdbbniaaGreatDoorZedW
import Derived.Test.YtooonjcpdbbniaaGreatDoorZed2
namespace Go.Proofs.YtooonjcpdbbniaaGreatDoor
open Go.RowKit
attribute [local go_sem ↓] Go.wp_at_zero Go.wp_at_succ
theorem one_limb {b : Nat} (h : 0 < b) (h64 : b < W64) : (limbs b).length = 1 ∧ lat (limbs b) 0 = b := by
  obtain ⟨h1, h2⟩ := limb1 h64
  refine ⟨?_, h2⟩
  rcases Nat.eq_zero_or_pos (limbs b).length with h3 | h3
  · have : limbs b = [] := List.eq_nil_of_length_eq_zero h3
    rw [this] at h2
    simp [lat] at h2; omega
  · omega
set_option maxRecDepth 100000 in
set_option maxHeartbeats 2000000 in
theorem divmod1_any (va vb : Value) (a b : Nat) (hb0 : 0 < b) (hb64 : b < W64) (w : World) (ha : IsN w va a) (hb : IsN w vb b) (hla : (limbs a).length ≤ 1000000) :
    Calls Tryz.prog 46 #[va, vb] w fun e w' => ∃ q r, e = .returned (.tuple #[q, r, .int .i64 0]) ∧ IsN w' q (a / b) ∧ IsN w' r (a % b) ∧ Fresh w.heap.size q ∧ Below w.heap.size w w' := by
  obtain ⟨l1, l2⟩ := one_limb hb0 hb64
  have hC := fun w ha hb => cmp_any va vb a b w ha hb
  have hS := fun w ha => short_any va a b hb0 hb64 w ha hla
  have hCl := fun w h => clone_nat va (limbs a) w h (by omega)
  have hO := fun w => of_any (a % b) (Nat.lt_trans (Nat.mod_lt a hb0) hb64) w
  obtain ⟨r, hr⟩ : ∃ r, r = a % b := ⟨_, rfl⟩
  rw [← hr] at hO
  simp only [← hr] at hS
  have HR := Lib.hid hr
  clear hr
  obtain ⟨A, L, ca, rfl⟩ := ha.frm
  obtain ⟨B, cb, e, _, _, _, hrb⟩ := id hb
  rw [l1] at e hrb
  subst e
  obtain ⟨ad, rfl, hab, hbc⟩ := us_cell hrb (show 0 < 1 by omega)
  rw [l2] at hbc
  replace hbc : w.cell? ad = some (.int .u64 b) := by simpa [Addr.add] using hbc
  obtain ⟨V, eV, hN, bV⟩ := box1 w 3 #[.int .i64 1]
  obtain ⟨g, eg⟩ : ∃ g, g = w.heap.size := ⟨_, rfl⟩
  rw [← eg] at hN
  have EV := Lib.hid (And.intro eV eg)
  clear eV eg
  have ha1 := ha.below bV
  have hb1 := hb.below bV
  have n0 := hN.cell 0
  by_cases hlt : a < b
  · rw [cmpI_lt (by omega)] at hC
    go_enter Tryz.func46, Tryz.ntmps46
    go_wp2_with fail
    rw [← EV.out.1, ← EV.out.2]
    refine (hC _ ha1 hb1).mono ?_
    rintro e w1 ⟨rfl, b1⟩
    have ha2 := ha1.below b1
    go_wp2_with fail
    refine (hCl _ ha2).mono ?_
    rintro e w2 ⟨v2, rfl, h2, _, b2⟩
    go_wp2
    go_ret3
    exact ⟨_, _, rfl, by rw [Nat.div_eq_of_lt hlt]; exact IsN.zero _, by rw [Nat.mod_eq_of_lt hlt]; exact h2, fun g e => by simp [Value.ownBlock] at e, (bV.trans (b1.mono bV.size)).trans (b2.mono (bV.trans (b1.mono bV.size)).size)⟩
  · have hk : (0 : Int) ≤ cmpI (a : Int) (b : Int) := by unfold cmpI; split <;> (try split) <;> omega
    generalize cmpI (a : Int) (b : Int) = k at *
    have hk1 : decide (k < 0) = false := decide_eq_false (by omega)
    go_enter Tryz.func46, Tryz.ntmps46
    go_wp2_with fail
    rw [← EV.out.1, ← EV.out.2]
    refine (hC _ ha1 hb1).mono ?_
    rintro e w1 ⟨rfl, b1⟩
    have ha2 := ha1.below b1
    have n1 := (hN.below b1 hN.lt).cell 0
    have b01 := bV.trans (b1.mono bV.size)
    have hc1 : w1.cell? ad = some (.int .u64 b) := (b01.cell (World.block_lt_of_cell? w _ hbc)).trans hbc
    go_wp2_with fail
    refine (hS _ ha2).mono ?_
    rintro e w2 ⟨q, rfl, hq, hfq, b2⟩
    have hFq := hfq.more b01.size
    clear hfq
    go_wp2_with fail
    refine (hO _).mono ?_
    rintro e w3 ⟨v3, rfl, h3, b3⟩
    have b02 := b01.trans (b2.mono b01.size)
    go_wp2
    go_ret3
    exact ⟨_, _, rfl, hq.below b3, by rw [← HR.out]; exact h3, hFq, b02.trans (b3.mono b02.size)⟩
end Go.Proofs.YtooonjcpdbbniaaGreatDoor
