/- The document's step of rows (layer 17): what it computes, and its refusals. Printed by gen_tells17.py. -/
import Derived.Test.YtbnnonmkkkhepaaStep17
import Derived.Test.YtbnnonmkkkhepaaRight17
import Derived.Test.YtbnnonmkkkhepaaTurned
namespace Go.Proofs.Ytbnnonmkkkhepaa
open Go.RowKit
attribute [local go_sem ↓] Go.wp_at_zero Go.wp_at_succ

theorem joinE_iff {e x : Int} : joinE e x = 0 ↔ e = 0 ∧ x = 0 := by unfold joinE; split <;> simp_all
theorem velN_eq (mu wd : Int) (k : Nat) (x v gr : Int) : (velN mu wd k x v gr).1 = stV mu k v (stD wd k x gr) := rfl
theorem newN_eq (lr mu wd : Int) (nest : Bool) (k : Nat) (x v gr : Int) : (newN lr mu wd nest k x v gr).1 = stW lr k x (stU nest mu k (stD wd k x gr) (stV mu k v (stD wd k x gr))) := by cases nest <;> rfl
theorem okN_eq (lr mu wd : Int) (nest : Bool) (k : Nat) (x v gr : Int) : ((newN lr mu wd nest k x v gr).2 && (velN mu wd k x v gr).2) = decide (stE lr mu wd nest k x v gr = 0) := by
  rw [Bool.eq_iff_iff, decide_eq_true_iff]
  unfold stE
  simp only [joinE_iff]
  cases nest <;> simp [newN, velN, lookN, decN, addN, mulN, subN, stU, stV, stD, joinE_iff] <;> grind
theorem errTo_more {lr mu wd : Int} {nest : Bool} {f : Nat} {W M G : List Int} {k : Nat} (h : errTo lr mu wd nest f W M G k ≠ 0) : ∀ n, k ≤ n → errTo lr mu wd nest f W M G n ≠ 0 := by
  intro n
  induction n with
  | zero => intro hk; obtain rfl : k = 0 := by omega
            exact h
  | succ n ih =>
    intro hk
    rcases Nat.lt_or_ge n k with h1 | h1
    · obtain rfl : k = n + 1 := by omega
      exact h
    · intro e
      exact ih h1 (joinE_iff.1 (show joinE (errTo lr mu wd nest f W M G n) _ = 0 from e)).1
set_option maxHeartbeats 2000000 in
theorem Step17_wrong (lr mu wd f : Int) (nest : Bool) (vW vM vV vG : Value) (W : List Int) (w : World) (hW : IsI w vW W) (hr : rightM lr mu wd f = false) :
    Calls Try.prog 11 #[.agg #[.int .i64 lr, .int .i64 mu, .int .i64 wd, .bool nest], .int .i64 f, .agg #[vW, vM, vV, vG]] w fun x w' => x = .returned (.tuple #[.agg #[.slice none 0 0, .slice none 0 0, .slice none 0 0, .slice none 0 0], .int .i64 1]) ∧ Below w.heap.size w w' := by
  have hR := fun w => right17_any lr mu wd f nest w
  rw [hr] at hR
  obtain ⟨AW, cW, rfl, hc1, hc2, hRW⟩ := hW
  obtain ⟨B, hB⟩ : ∃ B, B = w.heap.size := ⟨_, rfl⟩
  go_enter Try.func11, Try.ntmps11
  go_wp2_with fail
  obtain ⟨W0, hW0⟩ : ∃ W0, W0 = ((w.alloc (.cells #[.int .i64 lr, .int .i64 mu, .int .i64 wd, .bool nest] 23)).alloc (.cells #[.slice AW W.length cW, vM, vV, vG] 26)).alloc (.cells #[.slice none 0 0, .slice none 0 0, .slice none 0 0, .slice none 0 0] 26) := ⟨_, rfl⟩
  have h6 : Blk W0 (B + 2) 26 #[.slice none 0 0, .slice none 0 0, .slice none 0 0, .slice none 0 0] := by
    rw [hW0, hB]; have := Blk.new ((w.alloc (.cells #[.int .i64 lr, .int .i64 mu, .int .i64 wd, .bool nest] 23)).alloc (.cells #[.slice AW W.length cW, vM, vV, vG] 26)) 26 #[.slice none 0 0, .slice none 0 0, .slice none 0 0, .slice none 0 0]
    simpa using this
  have hb0 : Below w.heap.size w W0 := by rw [hW0]; exact (((Below.refl _ w).alloc (Nat.le_refl _) _).alloc (by simp) _).alloc (by simp; omega) _
  rw [← hW0, ← hB]
  refine (hR _).mono ?_
  rintro x w1 ⟨rfl, b1⟩
  have h6 := h6.below b1 h6.lt
  have b1 := hb0.trans (b1.mono hb0.size)
  have hB2 : w.heap.size ≤ B + 2 := by omega
  clear hW0 hb0 hB
  have c0 := h6.cell 0
  have c1 := h6.cell 1
  have c2 := h6.cell 2
  have c3 := h6.cell 3
  have z0 := h6.frozen 0
  have z1 := h6.frozen 1
  have z2 := h6.frozen 2
  have z3 := h6.frozen 3
  go_wp2
  refine bodyPost_ret (v := .tuple #[.agg #[.slice none 0 0, .slice none 0 0, .slice none 0 0, .slice none 0 0], .int .i64 1]) (by simp [results, Try.results11, go_sem, c0, c1, c2, c3]) rfl ⟨rfl, ?_⟩
  exact (((b1.setCell (p := ⟨B + 2, 0, none⟩) hB2 _).setCell (p := ⟨B + 2, 1, none⟩) hB2 _).setCell (p := ⟨B + 2, 2, none⟩) hB2 _).setCell (p := ⟨B + 2, 3, none⟩) hB2 _

set_option maxHeartbeats 2000000 in
theorem Step17_shape (lr mu wd f : Int) (nest : Bool) (vW vM vV vG : Value) (W M G : List Int) (w : World) (hW : IsI w vW W) (hM : IsI w vM M) (hG : IsI w vG G) (hr : rightM lr mu wd f = true) (hs : ¬ (M.length = W.length ∧ G.length = W.length)) :
    Calls Try.prog 11 #[.agg #[.int .i64 lr, .int .i64 mu, .int .i64 wd, .bool nest], .int .i64 f, .agg #[vW, vM, vV, vG]] w fun x w' => x = .returned (.tuple #[.agg #[.slice none 0 0, .slice none 0 0, .slice none 0 0, .slice none 0 0], .int .i64 5]) ∧ Below w.heap.size w w' := by
  have hR := fun w => right17_any lr mu wd f nest w
  rw [hr] at hR
  obtain ⟨AW, cW, rfl, hc1, hc2, hRW⟩ := hW
  obtain ⟨AM, cM, rfl, hm1, hm2, hRM⟩ := hM
  obtain ⟨AG, cG, rfl, hg1, hg2, hRG⟩ := hG
  obtain ⟨B, hB⟩ : ∃ B, B = w.heap.size := ⟨_, rfl⟩
  go_enter Try.func11, Try.ntmps11
  go_wp2_with fail
  obtain ⟨W0, hW0⟩ : ∃ W0, W0 = ((w.alloc (.cells #[.int .i64 lr, .int .i64 mu, .int .i64 wd, .bool nest] 23)).alloc (.cells #[.slice AW W.length cW, .slice AM M.length cM, vV, .slice AG G.length cG] 26)).alloc (.cells #[.slice none 0 0, .slice none 0 0, .slice none 0 0, .slice none 0 0] 26) := ⟨_, rfl⟩
  have h6 : Blk W0 (B + 2) 26 #[.slice none 0 0, .slice none 0 0, .slice none 0 0, .slice none 0 0] := by
    rw [hW0, hB]; have := Blk.new ((w.alloc (.cells #[.int .i64 lr, .int .i64 mu, .int .i64 wd, .bool nest] 23)).alloc (.cells #[.slice AW W.length cW, .slice AM M.length cM, vV, .slice AG G.length cG] 26)) 26 #[.slice none 0 0, .slice none 0 0, .slice none 0 0, .slice none 0 0]
    simpa using this
  have h5 : Blk W0 (B + 1) 26 #[.slice AW W.length cW, .slice AM M.length cM, vV, .slice AG G.length cG] := by
    rw [hW0, hB]; have := Blk.new (w.alloc (.cells #[.int .i64 lr, .int .i64 mu, .int .i64 wd, .bool nest] 23)) 26 #[.slice AW W.length cW, .slice AM M.length cM, vV, .slice AG G.length cG]
    rw [World.size_alloc] at this
    exact this.alloc _
  have hb0 : Below w.heap.size w W0 := by rw [hW0]; exact (((Below.refl _ w).alloc (Nat.le_refl _) _).alloc (by simp) _).alloc (by simp; omega) _
  rw [← hW0, ← hB]
  refine (hR _).mono ?_
  rintro x w1 ⟨rfl, b1⟩
  have h6 := h6.below b1 h6.lt
  have h5 := h5.below b1 h5.lt
  have b1 := hb0.trans (b1.mono hb0.size)
  have hB2 : w.heap.size ≤ B + 2 := by omega
  clear hW0 hb0 hB
  have c0 := h6.cell 0
  have c1 := h6.cell 1
  have c2 := h6.cell 2
  have c3 := h6.cell 3
  have z0 := h6.frozen 0
  have z1 := h6.frozen 1
  have z2 := h6.frozen 2
  have z3 := h6.frozen 3
  have l0 := h5.cell 0
  have l1 := h5.cell 1
  have l3 := h5.cell 3
  have END := Lib.hid ((((b1.setCell (p := ⟨B + 2, 0, none⟩) hB2 (.slice none 0 0)).setCell (p := ⟨B + 2, 1, none⟩) hB2 (.slice none 0 0)).setCell (p := ⟨B + 2, 2, none⟩) hB2 (.slice none 0 0)).setCell (p := ⟨B + 2, 3, none⟩) hB2 (.slice none 0 0))
  by_cases hm : M.length = W.length
  · have hg : G.length ≠ W.length := fun h => hs ⟨hm, h⟩
    have d1 : ((M.length : Int) != (W.length : Int)) = false := by simp [hm]
    have d2 : ((G.length : Int) != (W.length : Int)) = true := by simp; omega
    have d3 : decide (M.length = W.length) = true := decide_eq_true hm
    have d4 : decide (G.length = W.length) = false := decide_eq_false hg
    have HH := Lib.hid (And.intro hm (And.intro hg hs))
    clear hm hg hs
    go_wp2
    exact bodyPost_ret (v := .tuple #[.agg #[.slice none 0 0, .slice none 0 0, .slice none 0 0, .slice none 0 0], .int .i64 5]) (by simp [results, Try.results11, go_sem, c0, c1, c2, c3]) rfl ⟨rfl, END.out⟩
  · have d1 : ((M.length : Int) != (W.length : Int)) = true := by simp; omega
    have d3 : decide (M.length = W.length) = false := decide_eq_false hm
    have HH := Lib.hid (And.intro hm hs)
    clear hm hs
    go_wp2
    exact bodyPost_ret (v := .tuple #[.agg #[.slice none 0 0, .slice none 0 0, .slice none 0 0, .slice none 0 0], .int .i64 5]) (by simp [results, Try.results11, go_sem, c0, c1, c2, c3]) rfl ⟨rfl, END.out⟩
end Go.Proofs.Ytbnnonmkkkhepaa
