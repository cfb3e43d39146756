/- The code of any share, and what a code stands for, are as the document says. No conditions: every input. -/
import Derived.Test.YtochabikpaoalaaGreatLaw09
import Derived.Test.YtochabikpaoalaaGreatRNear10
namespace Go.Proofs.YtochabikpaoalaaGreat
open Go.ChangeShapes Go.WideShapes Go.ChangeAt Go.RowKit
attribute [local go_sem ↓] Go.wp_at_zero Go.wp_at_succ
set_option maxHeartbeats 1000000 in
theorem rnear_no (k num d : Int) (w : World) (hd : I64 d) (hs : share k num d = false) :
    Calls Tryz.prog 51 #[.int .i64 k, .int .i64 num, .int .i64 d] w fun e w' => e = .returned (.tuple #[.int .u8 0, .int .i64 1]) ∧ Below w.heap.size w w' := by
  have hSh := fun w => rShare_any k num d hd w
  rw [hs] at hSh
  clear hs hd
  have hB := Below.refl w.heap.size w
  go_enter Tryz.func51, Tryz.ntmps51
  go_wp2_with fail
  refine (hSh _).mono ?_
  rintro e w1 ⟨rfl, rfl⟩
  go_wp2
  go_ret2
  exact ⟨rfl, hB⟩
theorem rnear_any (k num d : Int) (w : World) (hi : I64 num) (hd : I64 d) :
    Calls Tryz.prog 51 #[.int .i64 k, .int .i64 num, .int .i64 d] w fun e w' => e = .returned (.tuple #[.int .u8 (codeOf k num d : Nat), .int .i64 (codeE k num d)]) ∧ Below w.heap.size w w' := by
  cases hs : share k num d
  · rw [show codeOf k num d = 0 from by unfold codeOf; rw [hs]; rfl, show codeE k num d = 1 from by unfold codeE; rw [hs]; rfl]
    exact rnear_no k num d w hd hs
  · obtain ⟨n, rfl, hn⟩ := kind_nat ((share_iff _ _ _).1 hs).1
    rw [codeE_of hs]
    exact rnear_ok n hn num d w hi hd hs
end Go.Proofs.YtochabikpaoalaaGreat
