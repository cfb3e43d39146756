/- RIGHT: what is packed is right, as long, and of the kind; what is loaded of a right one has no number whose size is above Scale; packed of it again by Wide it is there as it is. No conditions: every input. Printed by gen_loads11.py. -/
import Derived.Test.YtgcebmgmmhdcpaaGreatRef11b
import Derived.Deep.RegionHeld3
import Derived.Deep.DrawnRows
namespace Go.Proofs.YtgcebmgmmhdcpaaGreat
open Go.ChangeShapes Go.WideShapes Go.ChangeAt Go.RowKit
attribute [local go_sem ↓] Go.wp_at_zero Go.wp_at_succ
set_option maxHeartbeats 4000000 in
theorem BlockRight_few (v : Value) (k : Int) (l : List Int) (w : World) (h : IsI w v l) (hb : 20 < l.length) :
    Calls Tryz.prog 5 #[.int .i64 k, v] w fun e w' => e = .returned (.bool true) ∧ Below w.heap.size w w' := by
  obtain ⟨Aa, Ca, rfl, _, _⟩ := id h.form
  have hL := fun w => alive11_any w
  have hB := Below.refl w.heap.size w
  go_enter Tryz.func5, Tryz.ntmps5
  go_wp2_with fail
  refine (hL _).mono ?_
  rintro e w1 ⟨rfl, b1⟩
  replace hB := hB.trans (b1.mono hB.size)
  go_wp2
  go_ret
  exact ⟨rfl, hB⟩
set_option maxRecDepth 100000 in
set_option maxHeartbeats 4000000 in
theorem BlockRight_no (v : Value) (k : Int) (l : List Int) (w : World) (h : IsI w v l) (hl : ¬ 20 < l.length) (hP : ∀ w, IsI w v l → Calls Tryz.prog 18 #[.int .i64 k, v] w fun e w' => ∃ b, e = .returned (.tuple #[b, .int .i64 1]) ∧ IsBk w' b 0 0 [] [] ∧ Below w.heap.size w w') :
    Calls Tryz.prog 5 #[.int .i64 k, v] w fun e w' => e = .returned (.bool true) ∧ Below w.heap.size w w' := by
  obtain ⟨Aa, Ca, rfl, _, _⟩ := id h.form
  have hL := fun w => alive11_any w
  have hB := Below.refl w.heap.size w
  go_enter Tryz.func5, Tryz.ntmps5
  go_wp2_with fail
  refine (hP _ h).mono ?_
  rintro e w1 ⟨b1, rfl, ⟨bc, bw, rfl, hy1, hw1⟩, b1⟩
  replace h := h.below b1
  replace hB := hB.trans (b1.mono hB.size)
  obtain ⟨Ac, Cc, rfl, _, _⟩ := hy1.form
  obtain ⟨Aw, Cw, rfl, _, _⟩ := hw1.form
  clear hy1 hw1
  obtain ⟨V1, eV, hb, bV1⟩ := box1 w1 25 #[.int .i64 0, .int .i64 0, .slice Ac 0 Cc, .slice Aw 0 Cw]
  obtain ⟨X1, eX⟩ : ∃ X, X = w1.heap.size := ⟨_, rfl⟩
  rw [← eX] at hb
  have EV1 := Lib.hid (And.intro eV eX)
  clear eV eX
  go_upto_region 4 with fail
  rw [← EV1.out.1, ← EV1.out.2]
  replace hB := hB.trans (bV1.mono hB.size)
  obtain ⟨c3_hb_0, c3_hb_1, c3_hb_2, c3_hb_3⟩ := hb.quad
  go_wp2_with fail
  refine (hL _).mono ?_
  rintro e w2 ⟨rfl, b2⟩
  replace hb := hb.below b2 hb.lt
  replace hB := hB.trans (b2.mono hB.size)
  clear c3_hb_0 c3_hb_1 c3_hb_2 c3_hb_3
  obtain ⟨c4_hb_0, c4_hb_1, c4_hb_2, c4_hb_3⟩ := hb.quad
  go_wp2
  go_ret
  exact ⟨rfl, hB⟩
end Go.Proofs.YtgcebmgmmhdcpaaGreat
