/- Package mom: the step of rows. -/
import Derived.Test.YtbnnonmkkkhepaaMom3
import Derived.Test.YtbnnonmkkkhepaaBase
import Derived.RegionTactic
import Derived.Deep.DeepCutAuto
import Derived.Laws.MakeOwn
namespace Go.Proofs.Ytbnnonmkkkhepaa
open Go.RowKit
attribute [local go_sem ↓] Go.wp_at_zero Go.wp_at_succ

/-- a value of rows: four slices -/
def rows4 (a b c d : Value) : Value := .agg #[a, b, c, d]
def nil1 : Value := .slice none 0 0
set_option maxHeartbeats 2000000 in
theorem Step_wrong (lr mu wd f : Int) (nest : Bool) (vW vM vV vG : Value) (W : List Int) (w : World) (hW : IsI w vW W) (hr : rightM lr mu wd f = false) :
    Calls Try.prog 10 #[.agg #[.int .i64 lr, .int .i64 mu, .int .i64 wd, .bool nest], .int .i64 f, .agg #[vW, vM, vV, vG]] w fun x w' => x = .returned (.tuple #[.agg #[.slice none 0 0, .slice none 0 0, .slice none 0 0, .slice none 0 0], .int .i64 1]) ∧ Below w.heap.size w w' := by
  have hR := fun w => right_any lr mu wd f nest w
  rw [hr] at hR
  obtain ⟨AW, cW, rfl, hc1, hc2, hRW⟩ := hW
  obtain ⟨B, hB⟩ : ∃ B, B = w.heap.size := ⟨_, rfl⟩
  go_enter Try.func10, Try.ntmps10
  go_wp2_with fail
  obtain ⟨W0, hW0⟩ : ∃ W0, W0 = ((w.alloc (.cells #[.int .i64 lr, .int .i64 mu, .int .i64 wd, .bool nest] 23)).alloc (.cells #[.slice AW W.length cW, vM, vV, vG] 26)).alloc (.cells #[.slice none 0 0, .slice none 0 0, .slice none 0 0, .slice none 0 0] 26) := ⟨_, rfl⟩
  have h6 : Blk W0 (B + 2) 26 #[.slice none 0 0, .slice none 0 0, .slice none 0 0, .slice none 0 0] := by
    rw [hW0, hB]; have := Blk.new ((w.alloc (.cells #[.int .i64 lr, .int .i64 mu, .int .i64 wd, .bool nest] 23)).alloc (.cells #[.slice AW W.length cW, vM, vV, vG] 26)) 26 #[.slice none 0 0, .slice none 0 0, .slice none 0 0, .slice none 0 0]
    simpa using this
  have hb0 : Below w.heap.size w W0 := by rw [hW0]; exact (((Below.refl _ w).alloc (Nat.le_refl _) _).alloc (by simp) _).alloc (by simp; omega) _
  rw [← hW0, ← hB]
  refine (hR _).mono ?_
  rintro x w1 ⟨rfl, b1⟩
  have h6 := h6.below b1 h6.lt
  have b1 := hb0.trans (b1.mono hb0.size)
  have hB2 : w.heap.size ≤ B + 2 := by omega
  clear hW0 hb0 hB
  have c0 := h6.cell 0
  have c1 := h6.cell 1
  have c2 := h6.cell 2
  have c3 := h6.cell 3
  have z0 := h6.frozen 0
  have z1 := h6.frozen 1
  have z2 := h6.frozen 2
  have z3 := h6.frozen 3
  go_wp2
  refine bodyPost_ret (v := .tuple #[.agg #[.slice none 0 0, .slice none 0 0, .slice none 0 0, .slice none 0 0], .int .i64 1]) (by simp [results, Try.results10, go_sem, c0, c1, c2, c3]) rfl ⟨rfl, ?_⟩
  exact (((b1.setCell (p := ⟨B + 2, 0, none⟩) hB2 _).setCell (p := ⟨B + 2, 1, none⟩) hB2 _).setCell (p := ⟨B + 2, 2, none⟩) hB2 _).setCell (p := ⟨B + 2, 3, none⟩) hB2 _

set_option maxHeartbeats 2000000 in
theorem Step_shape (lr mu wd f : Int) (nest : Bool) (vW vM vV vG : Value) (W M G : List Int) (w : World) (hW : IsI w vW W) (hM : IsI w vM M) (hG : IsI w vG G) (hr : rightM lr mu wd f = true) (hs : ¬ (M.length = W.length ∧ G.length = W.length)) :
    Calls Try.prog 10 #[.agg #[.int .i64 lr, .int .i64 mu, .int .i64 wd, .bool nest], .int .i64 f, .agg #[vW, vM, vV, vG]] w fun x w' => x = .returned (.tuple #[.agg #[.slice none 0 0, .slice none 0 0, .slice none 0 0, .slice none 0 0], .int .i64 5]) ∧ Below w.heap.size w w' := by
  have hR := fun w => right_any lr mu wd f nest w
  rw [hr] at hR
  obtain ⟨AW, cW, rfl, hc1, hc2, hRW⟩ := hW
  obtain ⟨AM, cM, rfl, hm1, hm2, hRM⟩ := hM
  obtain ⟨AG, cG, rfl, hg1, hg2, hRG⟩ := hG
  obtain ⟨B, hB⟩ : ∃ B, B = w.heap.size := ⟨_, rfl⟩
  go_enter Try.func10, Try.ntmps10
  go_wp2_with fail
  obtain ⟨W0, hW0⟩ : ∃ W0, W0 = ((w.alloc (.cells #[.int .i64 lr, .int .i64 mu, .int .i64 wd, .bool nest] 23)).alloc (.cells #[.slice AW W.length cW, .slice AM M.length cM, vV, .slice AG G.length cG] 26)).alloc (.cells #[.slice none 0 0, .slice none 0 0, .slice none 0 0, .slice none 0 0] 26) := ⟨_, rfl⟩
  have h6 : Blk W0 (B + 2) 26 #[.slice none 0 0, .slice none 0 0, .slice none 0 0, .slice none 0 0] := by
    rw [hW0, hB]; have := Blk.new ((w.alloc (.cells #[.int .i64 lr, .int .i64 mu, .int .i64 wd, .bool nest] 23)).alloc (.cells #[.slice AW W.length cW, .slice AM M.length cM, vV, .slice AG G.length cG] 26)) 26 #[.slice none 0 0, .slice none 0 0, .slice none 0 0, .slice none 0 0]
    simpa using this
  have h5 : Blk W0 (B + 1) 26 #[.slice AW W.length cW, .slice AM M.length cM, vV, .slice AG G.length cG] := by
    rw [hW0, hB]; have := Blk.new (w.alloc (.cells #[.int .i64 lr, .int .i64 mu, .int .i64 wd, .bool nest] 23)) 26 #[.slice AW W.length cW, .slice AM M.length cM, vV, .slice AG G.length cG]
    rw [World.size_alloc] at this
    exact this.alloc _
  have hb0 : Below w.heap.size w W0 := by rw [hW0]; exact (((Below.refl _ w).alloc (Nat.le_refl _) _).alloc (by simp) _).alloc (by simp; omega) _
  rw [← hW0, ← hB]
  refine (hR _).mono ?_
  rintro x w1 ⟨rfl, b1⟩
  have h6 := h6.below b1 h6.lt
  have h5 := h5.below b1 h5.lt
  have b1 := hb0.trans (b1.mono hb0.size)
  have hB2 : w.heap.size ≤ B + 2 := by omega
  clear hW0 hb0 hB
  have c0 := h6.cell 0
  have c1 := h6.cell 1
  have c2 := h6.cell 2
  have c3 := h6.cell 3
  have z0 := h6.frozen 0
  have z1 := h6.frozen 1
  have z2 := h6.frozen 2
  have z3 := h6.frozen 3
  have l1 := h5.cell 1
  have l3 := h5.cell 3
  have END := Lib.hid ((((b1.setCell (p := ⟨B + 2, 0, none⟩) hB2 (.slice none 0 0)).setCell (p := ⟨B + 2, 1, none⟩) hB2 (.slice none 0 0)).setCell (p := ⟨B + 2, 2, none⟩) hB2 (.slice none 0 0)).setCell (p := ⟨B + 2, 3, none⟩) hB2 (.slice none 0 0))
  by_cases hm : M.length = W.length
  · have hg : G.length ≠ W.length := fun h => hs ⟨hm, h⟩
    have d1 : ((M.length : Int) != (W.length : Int)) = false := by simp [hm]
    have d2 : ((G.length : Int) != (W.length : Int)) = true := by simp; omega
    have d3 : decide (M.length = W.length) = true := decide_eq_true hm
    have d4 : decide (G.length = W.length) = false := decide_eq_false hg
    have HH := Lib.hid (And.intro hm (And.intro hg hs))
    clear hm hg hs
    go_wp2
    exact bodyPost_ret (v := .tuple #[.agg #[.slice none 0 0, .slice none 0 0, .slice none 0 0, .slice none 0 0], .int .i64 5]) (by simp [results, Try.results10, go_sem, c0, c1, c2, c3]) rfl ⟨rfl, END.out⟩
  · have d1 : ((M.length : Int) != (W.length : Int)) = true := by simp; omega
    have d3 : decide (M.length = W.length) = false := decide_eq_false hm
    have HH := Lib.hid (And.intro hm hs)
    clear hm hs
    go_wp2
    exact bodyPost_ret (v := .tuple #[.agg #[.slice none 0 0, .slice none 0 0, .slice none 0 0, .slice none 0 0], .int .i64 5]) (by simp [results, Try.results10, go_sem, c0, c1, c2, c3]) rfl ⟨rfl, END.out⟩
end Go.Proofs.Ytbnnonmkkkhepaa
