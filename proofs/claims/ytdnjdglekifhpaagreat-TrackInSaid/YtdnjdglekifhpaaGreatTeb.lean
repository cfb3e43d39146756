/- A part of the proof of: IN: of intervals in others all updates are in theirs. No conditions: every input. -/
import Derived.Deep.DeepMust
import Derived.Test.YtdnjdglekifhpaaGreatTea
namespace Go.Proofs.YtdnjdglekifhpaaGreat
open Go.RowKit
attribute [local go_sem ↓] Go.wp_at_zero Go.wp_at_succ
theorem IsL.frmL {w : World} {v : Value} {l : List Nat} (h : IsL w v l) : ∃ A C, v = .slice A l.length C ∧ l.length ≤ C ∧ C ≤ 9223372036854775807 := by
 obtain ⟨A, c, e, h1, h2, _⟩ := h; exact ⟨A, c, e, h1, h2⟩
def rightN (l : List Nat) : Bool := decide (l = [] ∨ lat l (l.length - 1) ≠ 0)
def rightQ (s : Bool) (lp lq : List Nat) : Bool := rightZ s lp && (rightN lq && (!decide (lq = []) && decide (Nat.gcd (num lp) (num lq) = 1)))
def fewQ (s : Bool) (lp lq : List Nat) (m : Nat) : Bool := decide (lp.length ≤ m) && (decide (lq.length ≤ m) && rightQ s lp lq)
def theQ (s : Bool) (lp lq : List Nat) : Rat := mkRat (sided s (num lp)) (num lq)
theorem isN_of {w : World} {v : Value} {l : List Nat} (h : IsL w v l) (hr : rightN l = true) : IsN w v (num l) ∧ limbs (num l) = l := by
 unfold rightN at hr
 rw [decide_eq_true_eq] at hr
 have hl : limbs (num l) = l := limbs_num l h.bd hr
 exact ⟨by unfold IsN; rw [hl]; exact h, hl⟩
theorem rightZ_nat {s : Bool} {l : List Nat} (h : rightZ s l = true) : rightN l = true := by
 unfold rightZ at h; rw [Bool.and_eq_true] at h; exact h.1
theorem sided_side {s : Bool} {l : List Nat} (hb : Bd l) (h : rightZ s l = true) : decide (sided s (num l) < 0) = s := by
 rw [sided_neg]
 cases s
 · rfl
 · have hr := rightZ_nat h
   unfold rightN at hr
   rw [decide_eq_true_eq] at hr
   have hl : limbs (num l) = l := limbs_num l hb hr
   unfold rightZ at h
   rw [Bool.and_eq_true] at h
   have h0 : l.length ≠ 0 := by have := h.2; simpa using this
   have : num l ≠ 0 := fun e => h0 (by rw [← hl, e, limbs_zero]; rfl)
   simp [this]
theorem isQ_of {w : World} {s : Bool} {p q : Value} {lp lq : List Nat} (hp : IsL w p lp) (hq : IsL w q lq) (hr : rightQ s lp lq = true) : IsQ w (.agg #[.bool s, p, q]) (theQ s lp lq) ∧ BQ (theQ s lp lq) (max lp.length lq.length) ∧ (theQ s lp lq).num = sided s (num lp) ∧ (theQ s lp lq).den = num lq := by
 unfold rightQ at hr
 simp only [Bool.and_eq_true, Bool.not_eq_true', decide_eq_false_iff_not, decide_eq_true_eq] at hr
 obtain ⟨h1, h2, h3, h4⟩ := hr
 obtain ⟨np, ep⟩ := isN_of hp (rightZ_nat h1)
 obtain ⟨nq, eq⟩ := isN_of hq h2
 have hq0 : num lq ≠ 0 := fun e => h3 (by rw [← eq, e, limbs_zero])
 have hs : (sided s (num lp)).natAbs = num lp := by unfold sided; split <;> omega
 obtain ⟨m1, m2, m3⟩ := mk_num (sided s (num lp)) (num lq) hq0
 rw [hs, h4, Nat.div_one] at m1
 rw [hs, h4, Nat.div_one] at m2
 rw [sided_side hp.bd h1] at m3
 have m4 : (theQ s lp lq).num = sided s (num lp) := by
   unfold theQ
   have h5 : decide (sided s (num lp) < 0) = s := sided_side hp.bd h1
   have h6 : decide ((mkRat (sided s (num lp)) (num lq)).num < 0) = decide (sided s (num lp) < 0) := by rw [m3, h5]
   have h7 : ((mkRat (sided s (num lp)) (num lq)).num < 0) ↔ (sided s (num lp) < 0) := by simpa using h6
   omega
 refine ⟨⟨p, q, ?_, ?_, ?_⟩, ⟨?_, ?_⟩, m4, m2⟩
 · unfold theQ; rw [m3]
 · unfold theQ; rw [m1]; exact np
 · unfold theQ; rw [m2]; exact nq
 · rw [m4, hs]; unfold Sz; rw [ep]; exact Nat.le_max_left _ _
 · unfold theQ; rw [m2]; unfold Sz; rw [eq]; exact Nat.le_max_right _ _
set_option maxRecDepth 100000 in
set_option maxHeartbeats 8000000 in
theorem rright5_any (s : Bool) (p q : Value) (lp lq : List Nat) (w : World) (hp : IsL w p lp) (hq : IsL w q lq) (np : lp.length ≤ 100000) (nq : lq.length ≤ 100000) :
   Calls Tryz.prog 49 #[.agg #[.bool s, p, q]] w fun e w' => e = .returned (.bool (rightQ s lp lq)) ∧ Below w.heap.size w w' := by
 have hZ := fun w h => rzright_any s p lp w h
 have hN := fun w h => rright_any q lq w h
 rw [show decide (lq = [] ∨ lat lq (lq.length - 1) ≠ 0) = rightN lq from rfl] at hN
 obtain ⟨A, C, rfl, _, _⟩ := id hp.frmL
 obtain ⟨D, E, rfl, _, _⟩ := id hq.frmL
 have j0 : decide (lq = []) = decide ((lq.length : Int) = 0) := by cases lq <;> simp; omega
 unfold rightQ
 cases hz : rightZ s lp
 · rw [hz] at hZ
   rw [Bool.false_and]
   clear hz j0 hN
   obtain ⟨g, hg⟩ : ∃ g, g = w.heap.size := ⟨_, rfl⟩
   obtain ⟨Y0, eY0, hA, bY0⟩ := box1 w 32 #[.bool s, .slice A lp.length C, .slice D lq.length E]
   have zY0 : Y0.heap.size = g + 1 := by rw [eY0, World.size_alloc, ← hg]
   rw [← hg] at hA
   replace hp := hp.below bY0
   replace hq := hq.below bY0
   have hB := bY0
   have hgw : w.heap.size ≤ g := by omega
   have EY := Lib.hid (And.intro hg eY0)
   clear hg eY0 zY0
   obtain ⟨c0, c1, c2⟩ := hA.q3
   go_enter Tryz.func49, Tryz.ntmps49
   go_wp2_with fail
   rw [← EY.out.2, ← EY.out.1]
   refine (hZ _ hp).mono ?_
   rintro e w2 ⟨rfl, b2⟩
   replace hp := hp.below b2
   replace hq := hq.below b2
   replace hA := hA.below b2 hA.lt
   replace hB := hB.trans (b2.mono hB.size)
   clear c0 c1 c2
   obtain ⟨c3, c4, c5⟩ := hA.q3
   go_wp2
   go_ret
   exact ⟨rfl, hB⟩
 · rw [hz] at hZ
   rw [Bool.true_and]
   cases hn : rightN lq
   · rw [hn] at hN
     rw [Bool.false_and]
     clear hn j0
     obtain ⟨g, hg⟩ : ∃ g, g = w.heap.size := ⟨_, rfl⟩
     obtain ⟨Y0, eY0, hA, bY0⟩ := box1 w 32 #[.bool s, .slice A lp.length C, .slice D lq.length E]
     have zY0 : Y0.heap.size = g + 1 := by rw [eY0, World.size_alloc, ← hg]
     rw [← hg] at hA
     replace hp := hp.below bY0
     replace hq := hq.below bY0
     have hB := bY0
     have hgw : w.heap.size ≤ g := by omega
     have EY := Lib.hid (And.intro hg eY0)
     clear hg eY0 zY0
     obtain ⟨c0, c1, c2⟩ := hA.q3
     go_enter Tryz.func49, Tryz.ntmps49
     go_wp2_with fail
     rw [← EY.out.2, ← EY.out.1]
     refine (hZ _ hp).mono ?_
     rintro e w2 ⟨rfl, b2⟩
     replace hp := hp.below b2
     replace hq := hq.below b2
     replace hA := hA.below b2 hA.lt
     replace hB := hB.trans (b2.mono hB.size)
     clear c0 c1 c2
     obtain ⟨c3, c4, c5⟩ := hA.q3
     go_wp2_with fail
     refine (hN _ hq).mono ?_
     rintro e w4 ⟨rfl, rfl⟩
     go_wp2
     go_ret
     exact ⟨rfl, hB⟩
   · rw [hn] at hN
     rw [Bool.true_and]
     by_cases h0 : lq = []
     · rw [decide_eq_true h0, Bool.not_true, Bool.false_and]
       have j1 : (lq.length : Int) = 0 := by rw [h0]; rfl
       have j2 : lq.length = 0 := by omega
       rw [j2] at hN hq
       clear h0 j0 j1
       rw [j2]
       obtain ⟨g, hg⟩ : ∃ g, g = w.heap.size := ⟨_, rfl⟩
       obtain ⟨Y0, eY0, hA, bY0⟩ := box1 w 32 #[.bool s, .slice A lp.length C, .slice D 0 E]
       have zY0 : Y0.heap.size = g + 1 := by rw [eY0, World.size_alloc, ← hg]
       rw [← hg] at hA
       replace hp := hp.below bY0
       replace hq := hq.below bY0
       have hB := bY0
       have hgw : w.heap.size ≤ g := by omega
       have EY := Lib.hid (And.intro hg eY0)
       clear hg eY0 zY0
       obtain ⟨c0, c1, c2⟩ := hA.q3
       go_enter Tryz.func49, Tryz.ntmps49
       go_wp2_with fail
       rw [← EY.out.2, ← EY.out.1]
       refine (hZ _ hp).mono ?_
       rintro e w2 ⟨rfl, b2⟩
       replace hp := hp.below b2
       replace hq := hq.below b2
       replace hA := hA.below b2 hA.lt
       replace hB := hB.trans (b2.mono hB.size)
       clear c0 c1 c2
       obtain ⟨c3, c4, c5⟩ := hA.q3
       go_wp2_with fail
       refine (hN _ hq).mono ?_
       rintro e w4 ⟨rfl, rfl⟩
       go_wp2
       go_ret
       exact ⟨rfl, hB⟩
     · rw [decide_eq_false h0, Bool.not_false, Bool.true_and]
       have j1 : ((lq.length : Int) == 0) = false := by
         rw [beq_eq_false_iff_ne]
         intro e
         exact h0 (List.eq_nil_of_length_eq_zero (by omega))
       have j2 : decide ((lq.length : Int) = 0) = false := by rw [← j0]; exact decide_eq_false h0
       obtain ⟨n1, e1⟩ := isN_of hp (rightZ_nat hz)
       obtain ⟨n2, e2⟩ := isN_of hq hn
       have hG := fun w h1 h2 => gcd_any (.slice A lp.length C) (.slice D lq.length E) (num lp) (num lq) w h1 h2 (by unfold Sz; rw [e1]; exact np) (by unfold Sz; rw [e2]; exact nq)
       have hO := fun w => rof_any 1 (by unfold W64; omega) w
       have hS := fun u v w h1 h2 => rsame_any u v (Nat.gcd (num lp) (num lq)) 1 w h1 h2
       clear e1 e2 h0 j0 hz hn np nq
       obtain ⟨g, hg⟩ : ∃ g, g = w.heap.size := ⟨_, rfl⟩
       obtain ⟨Y0, eY0, hA, bY0⟩ := box1 w 32 #[.bool s, .slice A lp.length C, .slice D lq.length E]
       have zY0 : Y0.heap.size = g + 1 := by rw [eY0, World.size_alloc, ← hg]
       rw [← hg] at hA
       replace hp := hp.below bY0
       replace hq := hq.below bY0
       replace n1 := n1.below bY0
       replace n2 := n2.below bY0
       have hB := bY0
       have hgw : w.heap.size ≤ g := by omega
       have EY := Lib.hid (And.intro hg eY0)
       clear hg eY0 zY0
       obtain ⟨c0, c1, c2⟩ := hA.q3
       go_enter Tryz.func49, Tryz.ntmps49
       go_wp2_with fail
       rw [← EY.out.2, ← EY.out.1]
       refine (hZ _ hp).mono ?_
       rintro e w2 ⟨rfl, b2⟩
       replace hp := hp.below b2
       replace hq := hq.below b2
       replace n1 := n1.below b2
       replace n2 := n2.below b2
       replace hA := hA.below b2 hA.lt
       replace hB := hB.trans (b2.mono hB.size)
       clear c0 c1 c2
       obtain ⟨c3, c4, c5⟩ := hA.q3
       go_wp2_with fail
       refine (hN _ hq).mono ?_
       rintro e w4 ⟨rfl, rfl⟩
       go_wp2_with fail
       refine (hG _ n1 n2).mono ?_
       rintro e w5 ⟨v3, rfl, n3, b5⟩
       replace hp := hp.below b5
       replace hq := hq.below b5
       replace n1 := n1.below b5
       replace n2 := n2.below b5
       replace hA := hA.below b5 hA.lt
       replace hB := hB.trans (b5.mono hB.size)
       clear c3 c4 c5
       obtain ⟨c6, c7, c8⟩ := hA.q3
       go_wp2_with fail
       refine (hO _).mono ?_
       rintro e w7 ⟨v4, rfl, n4, b7⟩
       replace hp := hp.below b7
       replace hq := hq.below b7
       replace n1 := n1.below b7
       replace n2 := n2.below b7
       replace hA := hA.below b7 hA.lt
       replace n3 := n3.below b7
       replace hB := hB.trans (b7.mono hB.size)
       clear c6 c7 c8
       obtain ⟨c9, c10, c11⟩ := hA.q3
       go_wp2_with fail
       refine (hS _ _ _ n3 n4).mono ?_
       rintro e w9 ⟨rfl, n9, hn9⟩
       have b9 : Below w7.heap.size w7 w9 := by rw [hn9]; exact below_drewN (Below.refl _ _) n9
       clear hn9
       replace hp := hp.below b9
       replace hq := hq.below b9
       replace n1 := n1.below b9
       replace n2 := n2.below b9
       replace hA := hA.below b9 hA.lt
       replace n3 := n3.below b9
       replace n4 := n4.below b9
       replace hB := hB.trans (b9.mono hB.size)
       clear c9 c10 c11
       obtain ⟨c12, c13, c14⟩ := hA.q3
       go_wp2
       go_ret
       exact ⟨rfl, hB⟩
set_option maxRecDepth 100000 in
set_option maxHeartbeats 8000000 in
theorem rfew5_any (s : Bool) (p q : Value) (lp lq : List Nat) (m : Nat) (w : World) (hp : IsL w p lp) (hq : IsL w q lq) (hm : m ≤ 1000) :
   Calls Tryz.prog 11 #[.agg #[.bool s, p, q], .int .i64 m] w fun e w' => e = .returned (.bool (fewQ s lp lq m)) ∧ Below w.heap.size w w' := by
 unfold fewQ
 obtain ⟨A, C, rfl, _, _⟩ := id hp.frmL
 obtain ⟨D, E, rfl, _, _⟩ := id hq.frmL
 by_cases h1 : lp.length ≤ m
 · rw [decide_eq_true h1, Bool.true_and]
   have i1 : decide ((lp.length : Int) ≤ (m : Int)) = true := decide_eq_true (by omega)
   by_cases h2 : lq.length ≤ m
   · rw [decide_eq_true h2, Bool.true_and]
     have i2 : decide ((lq.length : Int) ≤ (m : Int)) = true := decide_eq_true (by omega)
     have hR := fun w h1 h2 => rright5_any s (.slice A lp.length C) (.slice D lq.length E) lp lq w h1 h2 (by omega) (by omega)
     generalize rightQ s lp lq = r at *
     have k1 : decide (lp.length ≤ m) = true := decide_eq_true h1
     have k2 : decide (lq.length ≤ m) = true := decide_eq_true h2
     obtain ⟨g, hg⟩ : ∃ g, g = w.heap.size := ⟨_, rfl⟩
     obtain ⟨Y0, eY0, hA, bY0⟩ := box1 w 32 #[.bool s, .slice A lp.length C, .slice D lq.length E]
     have zY0 : Y0.heap.size = g + 1 := by rw [eY0, World.size_alloc, ← hg]
     rw [← hg] at hA
     replace hp := hp.below bY0
     replace hq := hq.below bY0
     have hB := bY0
     have hgw : w.heap.size ≤ g := by omega
     have EY := Lib.hid (And.intro hg eY0)
     clear hg eY0 zY0
     obtain ⟨c0, c1, c2⟩ := hA.q3
     go_enter Tryz.func11, Tryz.ntmps11
     go_wp2_with fail
     rw [← EY.out.2, ← EY.out.1]
     refine (hR _ hp hq).mono ?_
     rintro e w2 ⟨rfl, b2⟩
     replace hp := hp.below b2
     replace hq := hq.below b2
     replace hA := hA.below b2 hA.lt
     replace hB := hB.trans (b2.mono hB.size)
     clear c0 c1 c2
     obtain ⟨c3, c4, c5⟩ := hA.q3
     go_wp2
     go_ret
     exact ⟨rfl, hB⟩
   · rw [decide_eq_false h2, Bool.false_and]
     have i2 : decide ((lq.length : Int) ≤ (m : Int)) = false := decide_eq_false (by omega)
     have k1 : decide (lp.length ≤ m) = true := decide_eq_true h1
     have k2 : decide (lq.length ≤ m) = false := decide_eq_false h2
     obtain ⟨g, hg⟩ : ∃ g, g = w.heap.size := ⟨_, rfl⟩
     obtain ⟨Y0, eY0, hA, bY0⟩ := box1 w 32 #[.bool s, .slice A lp.length C, .slice D lq.length E]
     have zY0 : Y0.heap.size = g + 1 := by rw [eY0, World.size_alloc, ← hg]
     rw [← hg] at hA
     replace hp := hp.below bY0
     replace hq := hq.below bY0
     have hB := bY0
     have hgw : w.heap.size ≤ g := by omega
     have EY := Lib.hid (And.intro hg eY0)
     clear hg eY0 zY0
     obtain ⟨c0, c1, c2⟩ := hA.q3
     go_enter Tryz.func11, Tryz.ntmps11
     go_wp2
     go_ret
     refine ⟨rfl, ?_⟩
     rw [← EY.out.2, ← EY.out.1]
     first | exact hB | (rw [EY.out.1]; exact hB)
 · rw [decide_eq_false h1, Bool.false_and]
   have i1 : decide ((lp.length : Int) ≤ (m : Int)) = false := decide_eq_false (by omega)
   have k1 : decide (lp.length ≤ m) = false := decide_eq_false h1
   obtain ⟨g, hg⟩ : ∃ g, g = w.heap.size := ⟨_, rfl⟩
   obtain ⟨Y0, eY0, hA, bY0⟩ := box1 w 32 #[.bool s, .slice A lp.length C, .slice D lq.length E]
   have zY0 : Y0.heap.size = g + 1 := by rw [eY0, World.size_alloc, ← hg]
   rw [← hg] at hA
   replace hp := hp.below bY0
   replace hq := hq.below bY0
   have hB := bY0
   have hgw : w.heap.size ≤ g := by omega
   have EY := Lib.hid (And.intro hg eY0)
   clear hg eY0 zY0
   obtain ⟨c0, c1, c2⟩ := hA.q3
   go_enter Tryz.func11, Tryz.ntmps11
   go_wp2
   go_ret
   refine ⟨rfl, ?_⟩
   rw [← EY.out.2, ← EY.out.1]
   first | exact hB | (rw [EY.out.1]; exact hB)
end Go.Proofs.YtdnjdglekifhpaaGreat
namespace Go.Proofs.YtdnjdglekifhpaaGreat
open Go.RowKit
def ResQ (bad : Bool) (r : Rat) (w : World) (v : Value) : Prop := if bad = true then v = .agg #[.bool false, .slice none 0 0, .slice none 0 0] else IsQ w v r
def ResS (bad : Bool) (a b : Rat) (w : World) (v : Value) : Prop := if bad = true then v = .agg #[.bool false, .slice none 0 0, .slice none 0 0, .bool false, .slice none 0 0, .slice none 0 0] else IsS w v a b
def errOf (bad : Bool) : Int := if bad = true then 1 else 0
section
variable {bad : Bool} {r a b : Rat} {w w' : World} {v : Value}
theorem ResQ.below (h : ResQ bad r w v) (hb : Below w.heap.size w w') : ResQ bad r w' v := by
 unfold ResQ at *; split
 · rename_i e; rw [if_pos e] at h; exact h
 · rename_i e; rw [if_neg e] at h; exact h.below hb
theorem ResS.below (h : ResS bad a b w v) (hb : Below w.heap.size w w') : ResS bad a b w' v := by
 unfold ResS at *; split
 · rename_i e; rw [if_pos e] at h; exact h
 · rename_i e; rw [if_neg e] at h; exact h.below hb
theorem ResQ.opn (h : ResQ bad r w v) : ∃ s A L C D M E, v = .agg #[.bool s, .slice A L C, .slice D M E] ∧ ResQ bad r w (.agg #[.bool s, .slice A L C, .slice D M E]) := by
 unfold ResQ at *
 split
 · rename_i e; rw [if_pos e] at h; exact ⟨_, _, _, _, _, _, _, h, rfl⟩
 · rename_i e; rw [if_neg e] at h; exact h.opn
theorem ResS.opn (h : ResS bad a b w v) : ∃ s A L C D M E t A' L' C' D' M' E', v = .agg #[.bool s, .slice A L C, .slice D M E, .bool t, .slice A' L' C', .slice D' M' E'] ∧ ResS bad a b w (.agg #[.bool s, .slice A L C, .slice D M E, .bool t, .slice A' L' C', .slice D' M' E']) := by
 unfold ResS at *
 split
 · rename_i e; rw [if_pos e] at h; exact ⟨_, _, _, _, _, _, _, _, _, _, _, _, _, _, h, rfl⟩
 · rename_i e; rw [if_neg e] at h
   obtain ⟨s, A, L, C, D, M, E, t, A', L', C', D', M', E', e1, h1, h2⟩ := h.opn
   exact ⟨s, A, L, C, D, M, E, t, A', L', C', D', M', E', e1, _, _, _, _, _, _, rfl, h1, h2⟩
end
end Go.Proofs.YtdnjdglekifhpaaGreat
namespace Go.Proofs.YtdnjdglekifhpaaGreat
theorem cmpQ_le_iff (a b : Rat) : cmpQ a b ≤ 0 ↔ a ≤ b := by
 rw [Rat.le_iff]; unfold cmpQ cmpI; (repeat' split) <;> omega
theorem cmpQ_lt_iff (a b : Rat) : cmpQ a b < 0 ↔ a < b := by
 rw [Rat.lt_iff]; unfold cmpQ cmpI; (repeat' split) <;> omega
theorem num_neg_iff (a : Rat) : a.num < 0 ↔ a < 0 := by
 rw [← Rat.not_le, ← Rat.num_nonneg]; omega
theorem mul_den (a : Rat) : a * (a.den : Rat) = (a.num : Rat) := by
 have h := Rat.mkRat_eq_div a.num a.den
 rw [Rat.mkRat_self] at h
 have hd : (a.den : Rat) ≠ 0 := by
   have := a.den_nz
   intro e
   have e2 : ((a.den : Int) : Rat) = ((0 : Int) : Rat) := e
   rw [Rat.intCast_inj] at e2
   omega
 have : a * (a.den : Rat) = (a.num : Rat) / (a.den : Rat) * (a.den : Rat) := by rw [← h]
 rw [this, Rat.div_mul_cancel hd]
theorem den_posQ (a : Rat) : (0 : Rat) < (a.den : Rat) := by
 have := a.den_pos
 have h : ((0 : Int) : Rat) < ((a.den : Int) : Rat) := by rw [Rat.intCast_lt_intCast]; omega
 exact h
theorem flr_floor (a : Rat) (k : Nat) : flr a k = (a * ((2 ^ k : Nat) : Rat)).floor := by
 have key : ∀ x : Int, x ≤ flr a k ↔ x ≤ (a * ((2 ^ k : Nat) : Rat)).floor := by
   intro x
   rw [Rat.le_floor_iff]
   unfold flr
   have hd := a.den_pos
   rw [Int.le_ediv_iff_mul_le (by omega)]
   have e1 : (x : Rat) ≤ a * ((2 ^ k : Nat) : Rat) ↔ (x : Rat) * (a.den : Rat) ≤ a * ((2 ^ k : Nat) : Rat) * (a.den : Rat) :=
     ⟨fun h => Rat.mul_le_mul_of_nonneg_right h (Rat.le_of_lt (den_posQ a)), fun h => Rat.le_of_mul_le_mul_right h (den_posQ a)⟩
   have e2 : a * ((2 ^ k : Nat) : Rat) * (a.den : Rat) = (((a.num * ((2 ^ k : Nat) : Int)) : Int) : Rat) := by
     rw [Rat.intCast_mul, ← mul_den a]
     have : (((2 ^ k : Nat) : Int) : Rat) = ((2 ^ k : Nat) : Rat) := rfl
     rw [this]; grind
   have e3 : (x : Rat) * (a.den : Rat) = ((x * (a.den : Int) : Int) : Rat) := by rw [Rat.intCast_mul]; rfl
   rw [e1, e2, e3, Rat.intCast_le_intCast]
   have e4 : ((2 ^ k : Nat) : Int) = (2 : Int) ^ k := by simp
   rw [e4]
 have h1 := (key (flr a k)).1 (Int.le_refl _)
 have h2 := (key _).2 (Int.le_refl ((a * ((2 ^ k : Nat) : Rat)).floor))
 omega
theorem cel_bounds (r : Rat) (k : Nat) : r * ((2 ^ k : Nat) : Rat) ≤ ((cel r k : Int) : Rat) ∧ ((cel r k : Int) : Rat) < r * ((2 ^ k : Nat) : Rat) + 1 := by
 have e : cel r k = -((-r) * ((2 ^ k : Nat) : Rat)).floor := by unfold cel; rw [flr_floor]
 have h1 := Rat.floor_le ((-r) * ((2 ^ k : Nat) : Rat))
 have h2 := Rat.lt_floor_add_one ((-r) * ((2 ^ k : Nat) : Rat))
 generalize ((-r) * ((2 ^ k : Nat) : Rat)).floor = f at *
 rw [e, Rat.intCast_neg]
 rw [Rat.intCast_add] at h2
 have h3 : ((1 : Int) : Rat) = 1 := rfl
 rw [h3] at h2
 generalize ((2 ^ k : Nat) : Rat) = P at *
 generalize (f : Rat) = F at *
 constructor <;> grind
theorem cel_mono {r s : Rat} (k : Nat) (h : r ≤ s) : cel r k ≤ cel s k := by
 unfold cel
 rw [flr_floor, flr_floor]
 have hP : (0 : Rat) ≤ ((2 ^ k : Nat) : Rat) := Rat.natCast_nonneg
 have := Rat.floor_monotone (Rat.mul_le_mul_of_nonneg_right (Rat.neg_le_neg h) hP)
 omega
theorem powQ_pos (k : Nat) : (0 : Rat) < ((2 ^ k : Nat) : Rat) := by
 have h : ((0 : Int) : Rat) < (((2 ^ k : Nat) : Int) : Rat) := by rw [Rat.intCast_lt_intCast]; have := Nat.pow_pos (n := k) (show 0 < 2 by omega); omega
 exact h
theorem mkP_mul (z : Int) (k : Nat) : mkRat z (2 ^ k) * ((2 ^ k : Nat) : Rat) = (z : Rat) := by
 rw [Rat.mkRat_eq_div, Rat.div_mul_cancel]
 have := powQ_pos k
 intro e; rw [e] at this; exact absurd this (by decide)
theorem stepP (k : Nat) : 0 < mkRat 1 (2 ^ k) ∧ mkRat 1 (2 ^ k) * ((2 ^ k : Nat) : Rat) = 1 := by
 have h1 := mkP_mul 1 k
 have h2 : ((1 : Int) : Rat) = 1 := rfl
 rw [h2] at h1
 refine ⟨?_, h1⟩
 have hP := powQ_pos k
 have : (0 : Rat) * ((2 ^ k : Nat) : Rat) < mkRat 1 (2 ^ k) * ((2 ^ k : Nat) : Rat) := by rw [h1, Rat.zero_mul]; decide
 exact Rat.lt_of_mul_lt_mul_right this (Rat.le_of_lt hP)
theorem man_nonneg {beta : Int} (k : Nat) (h : 0 ≤ beta) : 0 ≤ mkRat beta (2 ^ k) := by
 rw [← Rat.divInt_ofNat]
 exact Rat.divInt_nonneg h (Int.natCast_nonneg _)
theorem divQ_eq (a b : Rat) (hb : 0 < b) : divQ a b = a / b := by
 have hn : 0 < b.num := by
   have h1 : ¬ b.num < 0 := by rw [num_neg_iff, Rat.not_lt]; exact Rat.le_of_lt hb
   have h2 : b.num ≠ 0 := fun e => by
     rw [Rat.num_eq_zero] at e; rw [e] at hb; exact absurd hb (by decide)
   omega
 unfold divQ
 rw [decide_eq_false (by omega)]
 have hs : sided false b.den = (b.den : Int) := by simp [sided]
 rw [hs, Rat.div_def]
 have e1 : b⁻¹ = mkRat b.den b.num.natAbs := by
   rw [Rat.inv_def, ← Rat.divInt_ofNat]
   congr 1
   omega
 rw [e1]
 have e2 : a = mkRat a.num a.den := (Rat.mkRat_self a).symm
 conv => rhs; rw [e2]
 rw [Rat.mkRat_mul_mkRat]
open Go.RowKit
attribute [local go_sem ↓] Go.wp_at_zero Go.wp_at_succ
noncomputable def rightI (s1 : Bool) (l1 m1 : List Nat) (s2 : Bool) (l2 m2 : List Nat) : Bool := rightQ s1 l1 m1 && rightQ s2 l2 m2 && decide (cmpQ (theQ s1 l1 m1) (theQ s2 l2 m2) ≤ 0)
noncomputable def fewI (s1 : Bool) (l1 m1 : List Nat) (s2 : Bool) (l2 m2 : List Nat) (n : Nat) : Bool := fewQ s1 l1 m1 n && fewQ s2 l2 m2 n && rightI s1 l1 m1 s2 l2 m2
set_option maxRecDepth 100000 in
set_option maxHeartbeats 8000000 in
theorem rsright_c0 (s1 s2 : Bool) (A1 D1 A2 D2 : Option Addr) (C1 E1 C2 E2 : Nat) (l1 m1 l2 m2 : List Nat) (w : World) (p1 : IsL w (.slice A1 l1.length C1) l1) (t1 : IsL w (.slice D1 m1.length E1) m1) (p2 : IsL w (.slice A2 l2.length C2) l2) (t2 : IsL w (.slice D2 m2.length E2) m2) (k1 : l1.length ≤ 1000) (k2 : m1.length ≤ 1000) (_k3 : l2.length ≤ 1000) (_k4 : m2.length ≤ 1000) (r1 : rightQ s1 l1 m1 = false) :
   Calls Tryz.prog 36 #[.agg #[.bool s1, .slice A1 l1.length C1, .slice D1 m1.length E1, .bool s2, .slice A2 l2.length C2, .slice D2 m2.length E2]] w fun e w' => e = .returned (.bool false) ∧ Below w.heap.size w w' := by
 have hR1 := fun w h h' => rright5_any s1 (.slice A1 l1.length C1) (.slice D1 m1.length E1) l1 m1 w h h' (by omega) (by omega)
 rw [r1] at hR1
 obtain ⟨g, hg⟩ : ∃ g, g = w.heap.size := ⟨_, rfl⟩
 obtain ⟨Y0, eY0, hA, bY0⟩ := box1 w 46 #[.bool s1, .slice A1 l1.length C1, .slice D1 m1.length E1, .bool s2, .slice A2 l2.length C2, .slice D2 m2.length E2]
 have zY0 : Y0.heap.size = g + 1 := by rw [eY0, World.size_alloc, ← hg]
 rw [← hg] at hA
 replace p1 := p1.below bY0
 replace t1 := t1.below bY0
 replace p2 := p2.below bY0
 replace t2 := t2.below bY0
 have hB := bY0
 have hgw : w.heap.size ≤ g := by omega
 have EY := Lib.hid (And.intro hg eY0)
 clear hg eY0 zY0
 obtain ⟨c0, c1, c2, c3, c4, c5⟩ := hA.q6
 go_enter Tryz.func36, Tryz.ntmps36
 go_wp2_with fail
 rw [← EY.out.2, ← EY.out.1]
 go_wp2_with fail
 refine (hR1 _ p1 t1).mono ?_
 rintro e w2 ⟨rfl, b2⟩
 replace p1 := p1.below b2
 replace t1 := t1.below b2
 replace p2 := p2.below b2
 replace t2 := t2.below b2
 replace hA := hA.below b2 hA.lt
 replace hB := hB.trans (b2.mono hB.size)
 clear c0 c1 c2 c3 c4 c5
 obtain ⟨c6, c7, c8, c9, c10, c11⟩ := hA.q6
 go_wp2
 go_ret
 exact ⟨rfl, hB⟩
set_option maxRecDepth 100000 in
set_option maxHeartbeats 8000000 in
theorem rsright_c1 (s1 s2 : Bool) (A1 D1 A2 D2 : Option Addr) (C1 E1 C2 E2 : Nat) (l1 m1 l2 m2 : List Nat) (w : World) (p1 : IsL w (.slice A1 l1.length C1) l1) (t1 : IsL w (.slice D1 m1.length E1) m1) (p2 : IsL w (.slice A2 l2.length C2) l2) (t2 : IsL w (.slice D2 m2.length E2) m2) (k1 : l1.length ≤ 1000) (k2 : m1.length ≤ 1000) (k3 : l2.length ≤ 1000) (k4 : m2.length ≤ 1000) (r1 : rightQ s1 l1 m1 = true) (r2 : rightQ s2 l2 m2 = false) :
   Calls Tryz.prog 36 #[.agg #[.bool s1, .slice A1 l1.length C1, .slice D1 m1.length E1, .bool s2, .slice A2 l2.length C2, .slice D2 m2.length E2]] w fun e w' => e = .returned (.bool false) ∧ Below w.heap.size w w' := by
 have hR1 := fun w h h' => rright5_any s1 (.slice A1 l1.length C1) (.slice D1 m1.length E1) l1 m1 w h h' (by omega) (by omega)
 rw [r1] at hR1
 have hR2 := fun w h h' => rright5_any s2 (.slice A2 l2.length C2) (.slice D2 m2.length E2) l2 m2 w h h' (by omega) (by omega)
 rw [r2] at hR2
 obtain ⟨g, hg⟩ : ∃ g, g = w.heap.size := ⟨_, rfl⟩
 obtain ⟨Y0, eY0, hA, bY0⟩ := box1 w 46 #[.bool s1, .slice A1 l1.length C1, .slice D1 m1.length E1, .bool s2, .slice A2 l2.length C2, .slice D2 m2.length E2]
 have zY0 : Y0.heap.size = g + 1 := by rw [eY0, World.size_alloc, ← hg]
 rw [← hg] at hA
 replace p1 := p1.below bY0
 replace t1 := t1.below bY0
 replace p2 := p2.below bY0
 replace t2 := t2.below bY0
 have hB := bY0
 have hgw : w.heap.size ≤ g := by omega
 have EY := Lib.hid (And.intro hg eY0)
 clear hg eY0 zY0
 obtain ⟨c0, c1, c2, c3, c4, c5⟩ := hA.q6
 go_enter Tryz.func36, Tryz.ntmps36
 go_wp2_with fail
 rw [← EY.out.2, ← EY.out.1]
 go_wp2_with fail
 refine (hR1 _ p1 t1).mono ?_
 rintro e w2 ⟨rfl, b2⟩
 replace p1 := p1.below b2
 replace t1 := t1.below b2
 replace p2 := p2.below b2
 replace t2 := t2.below b2
 replace hA := hA.below b2 hA.lt
 replace hB := hB.trans (b2.mono hB.size)
 clear c0 c1 c2 c3 c4 c5
 obtain ⟨c6, c7, c8, c9, c10, c11⟩ := hA.q6
 go_wp2_with fail
 refine (hR2 _ p2 t2).mono ?_
 rintro e w4 ⟨rfl, b4⟩
 replace p1 := p1.below b4
 replace t1 := t1.below b4
 replace p2 := p2.below b4
 replace t2 := t2.below b4
 replace hA := hA.below b4 hA.lt
 replace hB := hB.trans (b4.mono hB.size)
 clear c6 c7 c8 c9 c10 c11
 obtain ⟨c12, c13, c14, c15, c16, c17⟩ := hA.q6
 go_wp2
 go_ret
 exact ⟨rfl, hB⟩
set_option maxRecDepth 100000 in
set_option maxHeartbeats 8000000 in
theorem rsright_c2 (s1 s2 : Bool) (A1 D1 A2 D2 : Option Addr) (C1 E1 C2 E2 : Nat) (l1 m1 l2 m2 : List Nat) (w : World) (p1 : IsL w (.slice A1 l1.length C1) l1) (t1 : IsL w (.slice D1 m1.length E1) m1) (p2 : IsL w (.slice A2 l2.length C2) l2) (t2 : IsL w (.slice D2 m2.length E2) m2) (k1 : l1.length ≤ 1000) (k2 : m1.length ≤ 1000) (k3 : l2.length ≤ 1000) (k4 : m2.length ≤ 1000) (r1 : rightQ s1 l1 m1 = true) (r2 : rightQ s2 l2 m2 = true) :
   Calls Tryz.prog 36 #[.agg #[.bool s1, .slice A1 l1.length C1, .slice D1 m1.length E1, .bool s2, .slice A2 l2.length C2, .slice D2 m2.length E2]] w fun e w' => e = .returned (.bool (decide (cmpQ (theQ s1 l1 m1) (theQ s2 l2 m2) ≤ 0))) ∧ Below w.heap.size w w' := by
 have hR1 := fun w h h' => rright5_any s1 (.slice A1 l1.length C1) (.slice D1 m1.length E1) l1 m1 w h h' (by omega) (by omega)
 rw [r1] at hR1
 have hR2 := fun w h h' => rright5_any s2 (.slice A2 l2.length C2) (.slice D2 m2.length E2) l2 m2 w h h' (by omega) (by omega)
 rw [r2] at hR2
 have hC := fun w (h1 : IsL w (.slice A1 l1.length C1) l1) (h2 : IsL w (.slice D1 m1.length E1) m1) (h3 : IsL w (.slice A2 l2.length C2) l2) (h4 : IsL w (.slice D2 m2.length E2) m2) => rqcmp_any _ _ _ _ w (isQ_of h1 h2 r1).1 (isQ_of h3 h4 r2).1 ((isQ_of h1 h2 r1).2.1.more (by omega)) ((isQ_of h3 h4 r2).2.1.more (by omega))
 generalize cmpQ (theQ s1 l1 m1) (theQ s2 l2 m2) = cm at *
 obtain ⟨g, hg⟩ : ∃ g, g = w.heap.size := ⟨_, rfl⟩
 obtain ⟨Y0, eY0, hA, bY0⟩ := box1 w 46 #[.bool s1, .slice A1 l1.length C1, .slice D1 m1.length E1, .bool s2, .slice A2 l2.length C2, .slice D2 m2.length E2]
 have zY0 : Y0.heap.size = g + 1 := by rw [eY0, World.size_alloc, ← hg]
 rw [← hg] at hA
 replace p1 := p1.below bY0
 replace t1 := t1.below bY0
 replace p2 := p2.below bY0
 replace t2 := t2.below bY0
 have hB := bY0
 have hgw : w.heap.size ≤ g := by omega
 have EY := Lib.hid (And.intro hg eY0)
 clear hg eY0 zY0
 obtain ⟨c0, c1, c2, c3, c4, c5⟩ := hA.q6
 go_enter Tryz.func36, Tryz.ntmps36
 go_wp2_with fail
 rw [← EY.out.2, ← EY.out.1]
 go_wp2_with fail
 refine (hR1 _ p1 t1).mono ?_
 rintro e w2 ⟨rfl, b2⟩
 replace p1 := p1.below b2
 replace t1 := t1.below b2
 replace p2 := p2.below b2
 replace t2 := t2.below b2
 replace hA := hA.below b2 hA.lt
 replace hB := hB.trans (b2.mono hB.size)
 clear c0 c1 c2 c3 c4 c5
 obtain ⟨c6, c7, c8, c9, c10, c11⟩ := hA.q6
 go_wp2_with fail
 refine (hR2 _ p2 t2).mono ?_
 rintro e w4 ⟨rfl, b4⟩
 replace p1 := p1.below b4
 replace t1 := t1.below b4
 replace p2 := p2.below b4
 replace t2 := t2.below b4
 replace hA := hA.below b4 hA.lt
 replace hB := hB.trans (b4.mono hB.size)
 clear c6 c7 c8 c9 c10 c11
 obtain ⟨c12, c13, c14, c15, c16, c17⟩ := hA.q6
 go_wp2_with fail
 refine (hC _ p1 t1 p2 t2).mono ?_
 rintro e w6 ⟨rfl, b6⟩
 replace p1 := p1.below b6
 replace t1 := t1.below b6
 replace p2 := p2.below b6
 replace t2 := t2.below b6
 replace hA := hA.below b6 hA.lt
 replace hB := hB.trans (b6.mono hB.size)
 clear c12 c13 c14 c15 c16 c17
 obtain ⟨c18, c19, c20, c21, c22, c23⟩ := hA.q6
 go_wp2
 go_ret
 exact ⟨rfl, hB⟩
theorem rsright_any (s1 s2 : Bool) (A1 D1 A2 D2 : Option Addr) (C1 E1 C2 E2 : Nat) (l1 m1 l2 m2 : List Nat) (w : World) (p1 : IsL w (.slice A1 l1.length C1) l1) (t1 : IsL w (.slice D1 m1.length E1) m1) (p2 : IsL w (.slice A2 l2.length C2) l2) (t2 : IsL w (.slice D2 m2.length E2) m2) (k1 : l1.length ≤ 1000) (k2 : m1.length ≤ 1000) (k3 : l2.length ≤ 1000) (k4 : m2.length ≤ 1000) :
   Calls Tryz.prog 36 #[.agg #[.bool s1, .slice A1 l1.length C1, .slice D1 m1.length E1, .bool s2, .slice A2 l2.length C2, .slice D2 m2.length E2]] w fun e w' => e = .returned (.bool (rightI s1 l1 m1 s2 l2 m2)) ∧ Below w.heap.size w w' := by
 unfold rightI
 rcases r1 : rightQ s1 l1 m1
 · rw [Bool.false_and, Bool.false_and]; exact rsright_c0 s1 s2 A1 D1 A2 D2 C1 E1 C2 E2 l1 m1 l2 m2 w p1 t1 p2 t2 k1 k2 k3 k4 r1
 rcases r2 : rightQ s2 l2 m2
 · rw [Bool.true_and, Bool.false_and]; exact rsright_c1 s1 s2 A1 D1 A2 D2 C1 E1 C2 E2 l1 m1 l2 m2 w p1 t1 p2 t2 k1 k2 k3 k4 r1 r2
 rw [Bool.true_and, Bool.true_and]; exact rsright_c2 s1 s2 A1 D1 A2 D2 C1 E1 C2 E2 l1 m1 l2 m2 w p1 t1 p2 t2 k1 k2 k3 k4 r1 r2
set_option maxRecDepth 100000 in
set_option maxHeartbeats 8000000 in
theorem rsfew_c0 (s1 s2 : Bool) (A1 D1 A2 D2 : Option Addr) (C1 E1 C2 E2 : Nat) (l1 m1 l2 m2 : List Nat) (w : World) (p1 : IsL w (.slice A1 l1.length C1) l1) (t1 : IsL w (.slice D1 m1.length E1) m1) (p2 : IsL w (.slice A2 l2.length C2) l2) (t2 : IsL w (.slice D2 m2.length E2) m2) (n : Nat) (hn : n ≤ 1000) (r1 : fewQ s1 l1 m1 n = false) :
   Calls Tryz.prog 31 #[.agg #[.bool s1, .slice A1 l1.length C1, .slice D1 m1.length E1, .bool s2, .slice A2 l2.length C2, .slice D2 m2.length E2], .int .i64 n] w fun e w' => e = .returned (.bool false) ∧ Below w.heap.size w w' := by
 have hR1 := fun w h h' => rfew5_any s1 (.slice A1 l1.length C1) (.slice D1 m1.length E1) l1 m1 n w h h' hn
 rw [r1] at hR1
 obtain ⟨g, hg⟩ : ∃ g, g = w.heap.size := ⟨_, rfl⟩
 obtain ⟨Y0, eY0, hA, bY0⟩ := box1 w 46 #[.bool s1, .slice A1 l1.length C1, .slice D1 m1.length E1, .bool s2, .slice A2 l2.length C2, .slice D2 m2.length E2]
 have zY0 : Y0.heap.size = g + 1 := by rw [eY0, World.size_alloc, ← hg]
 rw [← hg] at hA
 replace p1 := p1.below bY0
 replace t1 := t1.below bY0
 replace p2 := p2.below bY0
 replace t2 := t2.below bY0
 have hB := bY0
 have hgw : w.heap.size ≤ g := by omega
 have EY := Lib.hid (And.intro hg eY0)
 clear hg eY0 zY0
 obtain ⟨c0, c1, c2, c3, c4, c5⟩ := hA.q6
 go_enter Tryz.func31, Tryz.ntmps31
 go_wp2_with fail
 rw [← EY.out.2, ← EY.out.1]
 go_wp2_with fail
 refine (hR1 _ p1 t1).mono ?_
 rintro e w2 ⟨rfl, b2⟩
 replace p1 := p1.below b2
 replace t1 := t1.below b2
 replace p2 := p2.below b2
 replace t2 := t2.below b2
 replace hA := hA.below b2 hA.lt
 replace hB := hB.trans (b2.mono hB.size)
 clear c0 c1 c2 c3 c4 c5
 obtain ⟨c6, c7, c8, c9, c10, c11⟩ := hA.q6
 go_wp2
 go_ret
 exact ⟨rfl, hB⟩
set_option maxRecDepth 100000 in
set_option maxHeartbeats 8000000 in
theorem rsfew_c1 (s1 s2 : Bool) (A1 D1 A2 D2 : Option Addr) (C1 E1 C2 E2 : Nat) (l1 m1 l2 m2 : List Nat) (w : World) (p1 : IsL w (.slice A1 l1.length C1) l1) (t1 : IsL w (.slice D1 m1.length E1) m1) (p2 : IsL w (.slice A2 l2.length C2) l2) (t2 : IsL w (.slice D2 m2.length E2) m2) (n : Nat) (hn : n ≤ 1000) (r1 : fewQ s1 l1 m1 n = true) (r2 : fewQ s2 l2 m2 n = false) :
   Calls Tryz.prog 31 #[.agg #[.bool s1, .slice A1 l1.length C1, .slice D1 m1.length E1, .bool s2, .slice A2 l2.length C2, .slice D2 m2.length E2], .int .i64 n] w fun e w' => e = .returned (.bool false) ∧ Below w.heap.size w w' := by
 have hR1 := fun w h h' => rfew5_any s1 (.slice A1 l1.length C1) (.slice D1 m1.length E1) l1 m1 n w h h' hn
 rw [r1] at hR1
 have hR2 := fun w h h' => rfew5_any s2 (.slice A2 l2.length C2) (.slice D2 m2.length E2) l2 m2 n w h h' hn
 rw [r2] at hR2
 obtain ⟨g, hg⟩ : ∃ g, g = w.heap.size := ⟨_, rfl⟩
 obtain ⟨Y0, eY0, hA, bY0⟩ := box1 w 46 #[.bool s1, .slice A1 l1.length C1, .slice D1 m1.length E1, .bool s2, .slice A2 l2.length C2, .slice D2 m2.length E2]
 have zY0 : Y0.heap.size = g + 1 := by rw [eY0, World.size_alloc, ← hg]
 rw [← hg] at hA
 replace p1 := p1.below bY0
 replace t1 := t1.below bY0
 replace p2 := p2.below bY0
 replace t2 := t2.below bY0
 have hB := bY0
 have hgw : w.heap.size ≤ g := by omega
 have EY := Lib.hid (And.intro hg eY0)
 clear hg eY0 zY0
 obtain ⟨c0, c1, c2, c3, c4, c5⟩ := hA.q6
 go_enter Tryz.func31, Tryz.ntmps31
 go_wp2_with fail
 rw [← EY.out.2, ← EY.out.1]
 go_wp2_with fail
 refine (hR1 _ p1 t1).mono ?_
 rintro e w2 ⟨rfl, b2⟩
 replace p1 := p1.below b2
 replace t1 := t1.below b2
 replace p2 := p2.below b2
 replace t2 := t2.below b2
 replace hA := hA.below b2 hA.lt
 replace hB := hB.trans (b2.mono hB.size)
 clear c0 c1 c2 c3 c4 c5
 obtain ⟨c6, c7, c8, c9, c10, c11⟩ := hA.q6
 go_wp2_with fail
 refine (hR2 _ p2 t2).mono ?_
 rintro e w4 ⟨rfl, b4⟩
 replace p1 := p1.below b4
 replace t1 := t1.below b4
 replace p2 := p2.below b4
 replace t2 := t2.below b4
 replace hA := hA.below b4 hA.lt
 replace hB := hB.trans (b4.mono hB.size)
 clear c6 c7 c8 c9 c10 c11
 obtain ⟨c12, c13, c14, c15, c16, c17⟩ := hA.q6
 go_wp2
 go_ret
 exact ⟨rfl, hB⟩
set_option maxRecDepth 100000 in
set_option maxHeartbeats 8000000 in
theorem rsfew_c2 (s1 s2 : Bool) (A1 D1 A2 D2 : Option Addr) (C1 E1 C2 E2 : Nat) (l1 m1 l2 m2 : List Nat) (w : World) (p1 : IsL w (.slice A1 l1.length C1) l1) (t1 : IsL w (.slice D1 m1.length E1) m1) (p2 : IsL w (.slice A2 l2.length C2) l2) (t2 : IsL w (.slice D2 m2.length E2) m2) (n : Nat) (hn : n ≤ 1000) (r1 : fewQ s1 l1 m1 n = true) (r2 : fewQ s2 l2 m2 n = true) :
   Calls Tryz.prog 31 #[.agg #[.bool s1, .slice A1 l1.length C1, .slice D1 m1.length E1, .bool s2, .slice A2 l2.length C2, .slice D2 m2.length E2], .int .i64 n] w fun e w' => e = .returned (.bool (rightI s1 l1 m1 s2 l2 m2)) ∧ Below w.heap.size w w' := by
 have hR1 := fun w h h' => rfew5_any s1 (.slice A1 l1.length C1) (.slice D1 m1.length E1) l1 m1 n w h h' hn
 rw [r1] at hR1
 have hR2 := fun w h h' => rfew5_any s2 (.slice A2 l2.length C2) (.slice D2 m2.length E2) l2 m2 n w h h' hn
 rw [r2] at hR2
 have r1' := r1
 have r2' := r2
 unfold fewQ at r1' r2'
 simp only [Bool.and_eq_true, decide_eq_true_eq] at r1' r2'
 have hC := fun w h1 h2 h3 h4 => rsright_any s1 s2 A1 D1 A2 D2 C1 E1 C2 E2 l1 m1 l2 m2 w h1 h2 h3 h4 (by omega) (by omega) (by omega) (by omega)
 clear r1' r2'
 generalize rightI s1 l1 m1 s2 l2 m2 = ri at *
 obtain ⟨g, hg⟩ : ∃ g, g = w.heap.size := ⟨_, rfl⟩
 obtain ⟨Y0, eY0, hA, bY0⟩ := box1 w 46 #[.bool s1, .slice A1 l1.length C1, .slice D1 m1.length E1, .bool s2, .slice A2 l2.length C2, .slice D2 m2.length E2]
 have zY0 : Y0.heap.size = g + 1 := by rw [eY0, World.size_alloc, ← hg]
 rw [← hg] at hA
 replace p1 := p1.below bY0
 replace t1 := t1.below bY0
 replace p2 := p2.below bY0
 replace t2 := t2.below bY0
 have hB := bY0
 have hgw : w.heap.size ≤ g := by omega
 have EY := Lib.hid (And.intro hg eY0)
 clear hg eY0 zY0
 obtain ⟨c0, c1, c2, c3, c4, c5⟩ := hA.q6
 go_enter Tryz.func31, Tryz.ntmps31
 go_wp2_with fail
 rw [← EY.out.2, ← EY.out.1]
 go_wp2_with fail
 refine (hR1 _ p1 t1).mono ?_
 rintro e w2 ⟨rfl, b2⟩
 replace p1 := p1.below b2
 replace t1 := t1.below b2
 replace p2 := p2.below b2
 replace t2 := t2.below b2
 replace hA := hA.below b2 hA.lt
 replace hB := hB.trans (b2.mono hB.size)
 clear c0 c1 c2 c3 c4 c5
 obtain ⟨c6, c7, c8, c9, c10, c11⟩ := hA.q6
 go_wp2_with fail
 refine (hR2 _ p2 t2).mono ?_
 rintro e w4 ⟨rfl, b4⟩
 replace p1 := p1.below b4
 replace t1 := t1.below b4
 replace p2 := p2.below b4
 replace t2 := t2.below b4
 replace hA := hA.below b4 hA.lt
 replace hB := hB.trans (b4.mono hB.size)
 clear c6 c7 c8 c9 c10 c11
 obtain ⟨c12, c13, c14, c15, c16, c17⟩ := hA.q6
 go_wp2_with fail
 refine (hC _ p1 t1 p2 t2).mono ?_
 rintro e w6 ⟨rfl, b6⟩
 replace p1 := p1.below b6
 replace t1 := t1.below b6
 replace p2 := p2.below b6
 replace t2 := t2.below b6
 replace hA := hA.below b6 hA.lt
 replace hB := hB.trans (b6.mono hB.size)
 clear c12 c13 c14 c15 c16 c17
 obtain ⟨c18, c19, c20, c21, c22, c23⟩ := hA.q6
 go_wp2
 go_ret
 exact ⟨rfl, hB⟩
theorem rightQ_of (a : Rat) : rightQ (decide (a.num < 0)) (limbs a.num.natAbs) (limbs a.den) = true ∧ theQ (decide (a.num < 0)) (limbs a.num.natAbs) (limbs a.den) = a := by
 have hd := a.den_pos
 constructor
 · unfold rightQ rightZ rightN
   rw [num_limbs, num_limbs]
   have r1 := limbs_rt a.num.natAbs
   have r2 := limbs_rt a.den
   unfold Rt at r1 r2
   have d1 : decide (limbs a.den = []) = false := decide_eq_false (by rw [limbs_nil]; omega)
   have d2 : decide (Nat.gcd a.num.natAbs a.den = 1) = true := decide_eq_true a.reduced
   rw [decide_eq_true r1, decide_eq_true r2, d1, d2]
   by_cases h : a.num < 0
   · have d3 : decide (a.num < 0) = true := decide_eq_true h
     have d4 : decide ((limbs a.num.natAbs).length = 0) = false := decide_eq_false (by rw [List.length_eq_zero_iff, limbs_nil]; omega)
     rw [d3, d4]; rfl
   · have d3 : decide (a.num < 0) = false := decide_eq_false h
     rw [d3]; rfl
 · unfold theQ
   rw [num_limbs, num_limbs]
   have : sided (decide (a.num < 0)) a.num.natAbs = a.num := by unfold sided; by_cases h : a.num < 0 <;> simp [h] <;> omega
   rw [this, Rat.mkRat_self]
theorem rsright_S (v : Value) (a b : Rat) (w : World) (h : IsS w v a b) (sa : BQ a 1000) (sb : BQ b 1000) (hab : a ≤ b) :
   Calls Tryz.prog 36 #[v] w fun e w' => e = .returned (.bool true) ∧ Below w.heap.size w w' := by
 obtain ⟨s1, p1, q1, s2, p2, q2, rfl, h1, h2⟩ := h
 obtain ⟨pn, qn, e, hp, hq⟩ := h1
 cases e
 obtain ⟨pm, qm, e, hr, ht⟩ := h2
 cases e
 obtain ⟨A1, C1, rfl, _, _⟩ := id (IsL.frmL hp)
 obtain ⟨D1, E1, rfl, _, _⟩ := id (IsL.frmL hq)
 obtain ⟨A2, C2, rfl, _, _⟩ := id (IsL.frmL hr)
 obtain ⟨D2, E2, rfl, _, _⟩ := id (IsL.frmL ht)
 have := rsright_any (decide (a.num < 0)) (decide (b.num < 0)) A1 D1 A2 D2 C1 E1 C2 E2 _ _ _ _ w hp hq hr ht sa.1 sa.2 sb.1 sb.2
 unfold rightI at this
 have hc : decide (cmpQ a b ≤ 0) = true := decide_eq_true ((cmpQ_le_iff a b).2 hab)
 rw [(rightQ_of a).1, (rightQ_of b).1, (rightQ_of a).2, (rightQ_of b).2, hc] at this
 exact this
theorem rsfew_any (s1 s2 : Bool) (A1 D1 A2 D2 : Option Addr) (C1 E1 C2 E2 : Nat) (l1 m1 l2 m2 : List Nat) (w : World) (p1 : IsL w (.slice A1 l1.length C1) l1) (t1 : IsL w (.slice D1 m1.length E1) m1) (p2 : IsL w (.slice A2 l2.length C2) l2) (t2 : IsL w (.slice D2 m2.length E2) m2) (n : Nat) (hn : n ≤ 1000) :
   Calls Tryz.prog 31 #[.agg #[.bool s1, .slice A1 l1.length C1, .slice D1 m1.length E1, .bool s2, .slice A2 l2.length C2, .slice D2 m2.length E2], .int .i64 n] w fun e w' => e = .returned (.bool (fewI s1 l1 m1 s2 l2 m2 n)) ∧ Below w.heap.size w w' := by
 unfold fewI
 rcases r1 : fewQ s1 l1 m1 n
 · rw [Bool.false_and, Bool.false_and]; exact rsfew_c0 s1 s2 A1 D1 A2 D2 C1 E1 C2 E2 l1 m1 l2 m2 w p1 t1 p2 t2 n hn r1
 rcases r2 : fewQ s2 l2 m2 n
 · rw [Bool.true_and, Bool.false_and]; exact rsfew_c1 s1 s2 A1 D1 A2 D2 C1 E1 C2 E2 l1 m1 l2 m2 w p1 t1 p2 t2 n hn r1 r2
 rw [Bool.true_and, Bool.true_and]; exact rsfew_c2 s1 s2 A1 D1 A2 D2 C1 E1 C2 E2 l1 m1 l2 m2 w p1 t1 p2 t2 n hn r1 r2
theorem aone_any (k : Nat) (w : World) (hk : k ≤ 40) : Calls Tryz.prog 110 #[.int .i64 k] w fun e w' => e = .returned (.int .i64 ((2 ^ k : Nat) : Int)) ∧ w = w' := by
 have hP40 : 2 ^ k ≤ 2 ^ 40 := Nat.pow_le_pow_right (by omega) hk
 have hPi : ((2 ^ k : Nat) : Int) = (2 : Int) ^ k := by simp
 obtain ⟨P, hP⟩ : ∃ P, P = 2 ^ k := ⟨_, rfl⟩
 rw [← hP] at hP40 hPi ⊢
 have w1 : IntKind.i64.wrap ((2 : Int) ^ k) = (P : Int) := by rw [← hPi, IntKind.wrap_i64]; omega
 have w2 : IntKind.i64.wrap (1 * (2 : Int) ^ k) = (P : Int) := by rw [Int.one_mul]; exact w1
 clear hP hPi
 go_enter Tryz.func110, Tryz.ntmps110
 go_wp2
 go_ret
 exact ⟨rfl, rfl⟩
set_option maxRecDepth 100000 in
set_option maxHeartbeats 8000000 in
theorem abeta_no (n : Int) (k X : Nat) (w : World) (hk : k ≤ 40) (hX : Blk w X 3 #[.int .i64 k]) (hn : ¬ 0 ≤ n) :
   Calls Tryz.prog 143 #[.int .i64 n, .pointer (some ⟨X, 0, none⟩)] w fun e w' => e = .returned (.bool false) ∧ w = w' := by
 have hO := fun w => aone_any k w hk
 have c0 := hX.cell 0
 have d0 : decide (0 ≤ n) = false := decide_eq_false hn
 generalize 2 ^ k = P at *
 clear hn
 go_enter Tryz.func143, Tryz.ntmps143
 go_wp2
 go_ret
 exact ⟨rfl, rfl⟩
set_option maxRecDepth 100000 in
set_option maxHeartbeats 8000000 in
theorem abeta_yes (n : Int) (k X : Nat) (w : World) (hk : k ≤ 40) (hX : Blk w X 3 #[.int .i64 k]) (hn : 0 ≤ n) :
   Calls Tryz.prog 143 #[.int .i64 n, .pointer (some ⟨X, 0, none⟩)] w fun e w' => e = .returned (.bool (decide (n < ((2 ^ k : Nat) : Int)))) ∧ w = w' := by
 have hO := fun w => aone_any k w hk
 have c0 := hX.cell 0
 have d0 : decide (0 ≤ n) = true := decide_eq_true hn
 generalize 2 ^ k = P at *
 clear hn
 go_enter Tryz.func143, Tryz.ntmps143
 go_wp2_with fail
 refine (hO _).mono ?_
 rintro e w1 ⟨rfl, rfl⟩
 go_wp2
 go_ret
 exact ⟨rfl, rfl⟩
theorem abeta_any (n : Int) (k X : Nat) (w : World) (hk : k ≤ 40) (hX : Blk w X 3 #[.int .i64 k]) :
   Calls Tryz.prog 143 #[.int .i64 n, .pointer (some ⟨X, 0, none⟩)] w fun e w' => e = .returned (.bool (decide (0 ≤ n) && decide (n < ((2 ^ k : Nat) : Int)))) ∧ w = w' := by
 by_cases h : 0 ≤ n
 · rw [decide_eq_true h, Bool.true_and]; exact abeta_yes n k X w hk hX h
 · rw [decide_eq_false h, Bool.false_and]; exact abeta_no n k X w hk hX h
def rightA (lr b1 b2 eps wd f : Int) : Bool := decide (0 ≤ f ∧ f ≤ 40 ∧ 0 ≤ lr ∧ 0 < eps ∧ (0 ≤ b1 ∧ b1 < ((2 ^ f.toNat : Nat) : Int)) ∧ (0 ≤ b2 ∧ b2 < ((2 ^ f.toNat : Nat) : Int)) ∧ 0 ≤ wd ∧ wd ≤ ((2 ^ f.toNat : Nat) : Int))
set_option maxRecDepth 100000 in
set_option maxHeartbeats 8000000 in
theorem aright_f0 (lr b1 b2 eps wd f : Int) (apart : Bool) (w : World) (h : f < 0) :
   Calls Tryz.prog 82 #[.agg #[.int .i64 lr, .int .i64 b1, .int .i64 b2, .int .i64 eps, .int .i64 wd, .bool apart], .int .i64 f] w fun e w' => e = .returned (.bool false) ∧ Below w.heap.size w w' := by
 have d0 : decide (f < 0) = true := decide_eq_true h
 obtain ⟨g, hg⟩ : ∃ g, g = w.heap.size := ⟨_, rfl⟩
 obtain ⟨Y0, eY0, hA, bY0⟩ := box1 w 61 #[.int .i64 lr, .int .i64 b1, .int .i64 b2, .int .i64 eps, .int .i64 wd, .bool apart]
 have zY0 : Y0.heap.size = g + 1 := by rw [eY0, World.size_alloc, ← hg]
 rw [← hg] at hA
 have hB := bY0
 obtain ⟨Y1, eY1, hF, bY1⟩ := box1 Y0 3 #[.int .i64 f]
 have zY1 : Y1.heap.size = g + 1 + 1 := by rw [eY1, World.size_alloc, zY0]
 rw [zY0] at hF
 replace hA := hA.below bY1 hA.lt
 replace hB := hB.trans (bY1.mono hB.size)
 have hgw : w.heap.size ≤ g := by omega
 have EY := Lib.hid (And.intro hg (And.intro eY0 eY1))
 clear hg eY0 zY0 eY1 zY1
 obtain ⟨c0, c1, c2, c3, c4, c5⟩ := hA.q6
 have c6 := hF.q1
 go_enter Tryz.func82, Tryz.ntmps82
 go_wp2_with fail
 rw [← EY.out.2.1, ← EY.out.2.2, ← EY.out.1]
 go_wp2
 go_ret
 exact ⟨rfl, by rw [EY.out.1]; exact hB⟩
set_option maxRecDepth 100000 in
set_option maxHeartbeats 8000000 in
theorem aright_f1 (lr b1 b2 eps wd f : Int) (apart : Bool) (w : World) (h0 : ¬ f < 0) (h : 40 < f) :
   Calls Tryz.prog 82 #[.agg #[.int .i64 lr, .int .i64 b1, .int .i64 b2, .int .i64 eps, .int .i64 wd, .bool apart], .int .i64 f] w fun e w' => e = .returned (.bool false) ∧ Below w.heap.size w w' := by
 have d0 : decide (f < 0) = false := decide_eq_false h0
 have d1 : decide (40 < f) = true := decide_eq_true h
 obtain ⟨g, hg⟩ : ∃ g, g = w.heap.size := ⟨_, rfl⟩
 obtain ⟨Y0, eY0, hA, bY0⟩ := box1 w 61 #[.int .i64 lr, .int .i64 b1, .int .i64 b2, .int .i64 eps, .int .i64 wd, .bool apart]
 have zY0 : Y0.heap.size = g + 1 := by rw [eY0, World.size_alloc, ← hg]
 rw [← hg] at hA
 have hB := bY0
 obtain ⟨Y1, eY1, hF, bY1⟩ := box1 Y0 3 #[.int .i64 f]
 have zY1 : Y1.heap.size = g + 1 + 1 := by rw [eY1, World.size_alloc, zY0]
 rw [zY0] at hF
 replace hA := hA.below bY1 hA.lt
 replace hB := hB.trans (bY1.mono hB.size)
 have hgw : w.heap.size ≤ g := by omega
 have EY := Lib.hid (And.intro hg (And.intro eY0 eY1))
 clear hg eY0 zY0 eY1 zY1
 obtain ⟨c0, c1, c2, c3, c4, c5⟩ := hA.q6
 have c6 := hF.q1
 go_enter Tryz.func82, Tryz.ntmps82
 go_wp2_with fail
 rw [← EY.out.2.1, ← EY.out.2.2, ← EY.out.1]
 go_wp2
 go_ret
 exact ⟨rfl, by rw [EY.out.1]; exact hB⟩
set_option maxRecDepth 100000 in
set_option maxHeartbeats 8000000 in
theorem aright_c0 (lr b1 b2 eps wd f : Int) (apart : Bool) (w : World) (f0 : 0 ≤ f) (f1 : f ≤ 40)  (hx : ¬ (0 ≤ lr)) :
   Calls Tryz.prog 82 #[.agg #[.int .i64 lr, .int .i64 b1, .int .i64 b2, .int .i64 eps, .int .i64 wd, .bool apart], .int .i64 f] w fun e w' => e = .returned (.bool false) ∧ Below w.heap.size w w' := by
 obtain ⟨k, rfl⟩ : ∃ k : Nat, f = (k : Int) := ⟨f.toNat, by omega⟩
 have hk : k ≤ 40 := by omega
 try simp only [Int.toNat_natCast] at *
 have d0 : decide ((k : Int) < 0) = false := decide_eq_false (by omega)
 have d1 : decide (40 < (k : Int)) = false := decide_eq_false (by omega)
 have hO := fun w => aone_any k w hk
 have hb := fun n X w hX => abeta_any n k X w hk hX
 have e0 : decide (0 ≤ lr) = false := decide_eq_false hx
 generalize 2 ^ k = P at *
 clear hb  hx
 obtain ⟨g, hg⟩ : ∃ g, g = w.heap.size := ⟨_, rfl⟩
 obtain ⟨Y0, eY0, hA, bY0⟩ := box1 w 61 #[.int .i64 lr, .int .i64 b1, .int .i64 b2, .int .i64 eps, .int .i64 wd, .bool apart]
 have zY0 : Y0.heap.size = g + 1 := by rw [eY0, World.size_alloc, ← hg]
 rw [← hg] at hA
 have hB := bY0
 obtain ⟨Y1, eY1, hF, bY1⟩ := box1 Y0 3 #[.int .i64 k]
 have zY1 : Y1.heap.size = g + 1 + 1 := by rw [eY1, World.size_alloc, zY0]
 rw [zY0] at hF
 replace hA := hA.below bY1 hA.lt
 replace hB := hB.trans (bY1.mono hB.size)
 have hgw : w.heap.size ≤ g := by omega
 have EY := Lib.hid (And.intro hg (And.intro eY0 eY1))
 clear hg eY0 zY0 eY1 zY1
 obtain ⟨c0, c1, c2, c3, c4, c5⟩ := hA.q6
 have c6 := hF.q1
 go_enter Tryz.func82, Tryz.ntmps82
 go_upto_region 4 with fail
 rw [← EY.out.2.1, ← EY.out.2.2, ← EY.out.1]
 replace hB := hB.drew
 replace hA := hA.drew
 replace hF := hF.drew
 clear c0 c1 c2 c3 c4 c5 c6
 refine wp_region_noPanic ?_
 refine wp_region_held_drew (S := fun w' => w'.cell? ⟨g, 0, none⟩ = some (.int .i64 lr) ∧ w'.cell? ⟨g, 1, none⟩ = some (.int .i64 b1) ∧ w'.cell? ⟨g, 2, none⟩ = some (.int .i64 b2) ∧ w'.cell? ⟨g, 3, none⟩ = some (.int .i64 eps) ∧ w'.cell? ⟨g, 4, none⟩ = some (.int .i64 wd) ∧ w'.cell? ⟨g, 5, none⟩ = some (.bool apart) ∧ w'.cell? ⟨g + 1, 0, none⟩ = some (.int .i64 k)) (by kernel_rfl) ?_ (fun hHeld => ?_)
 · exact ⟨hA.cell 0, hA.cell 1, hA.cell 2, hA.cell 3, hA.cell 4, hA.cell 5, hF.cell 0⟩
 obtain ⟨wd4_1, hwd⟩ : ∃ q, q = Y1.drew := ⟨_, rfl⟩
 rw [← hwd] at hB hA hF hHeld ⊢
 clear hwd
 refine tkH 0 rfl (v := ?v1) ?h1 ?r1
 case h1 => intro w hSw; (try dsimp only at hSw); go_simp; try (with_reducible rfl)
 refine tkH 1 rfl (v := ?v2) ?h2 ?r2
 case h2 => intro w hSw; (try dsimp only at hSw); go_simp; try (with_reducible rfl)
 refine tkH 2 rfl (v := ?v3) ?h3 ?r3
 case h3 => intro w hSw; (try dsimp only at hSw); go_simp; try (with_reducible rfl)
 refine tkH 3 rfl (v := ?v4) ?h4 ?r4
 case h4 => intro w hSw; (try dsimp only at hSw); go_simp; try (with_reducible rfl)
 refine tkS 4 rfl ?_
 refine tkS 5 rfl ?_
 refine tkS 6 rfl ?_
 refine tkH 7 rfl (v := ?v8) ?h8 ?r8
 case h8 => intro w hSw; (try dsimp only at hSw); go_simp; try (with_reducible rfl)
 refine tkH 8 rfl (v := ?v9) ?h9 ?r9
 case h9 => intro w hSw; (try dsimp only at hSw); go_simp; try (with_reducible rfl)
 refine tkS 9 rfl ?_
 refine tkS 10 rfl ?_
 refine tkS 11 rfl ?_
 refine tkS 12 rfl ?_
 refine tkH 13 rfl (v := ?v14) ?h14 ?r14
 case h14 => intro w hSw; (try dsimp only at hSw); go_simp; try (with_reducible rfl)
 refine tkH 14 rfl (v := ?v15) ?h15 ?r15
 case h15 => intro w hSw; (try dsimp only at hSw); go_simp; try (with_reducible rfl)
 refine tkS 15 rfl ?_
 refine tkS 16 rfl ?_
 refine tkS 17 rfl ?_
 refine tkS 18 rfl ?_
 refine tkH 19 rfl (v := ?v20) ?h20 ?r20
 case h20 => intro w hSw; (try dsimp only at hSw); go_simp; try (with_reducible rfl)
 refine tkH 20 rfl (v := ?v21) ?h21 ?r21
 case h21 => intro w hSw; (try dsimp only at hSw); go_simp; try (with_reducible rfl)
 refine tkS 21 rfl ?_
 refine tkS 22 rfl ?_
 refine tkS 23 rfl ?_
 refine tkH 24 rfl (v := ?v25) ?h25 ?r25
 case h25 => intro w hSw; (try dsimp only at hSw); go_simp; try (with_reducible rfl)
 refine tkH 25 rfl (v := ?v26) ?h26 ?r26
 case h26 => intro w hSw; (try dsimp only at hSw); go_simp; try (with_reducible rfl)
 refine tkS 26 rfl ?_
 refine tkS 27 rfl ?_
 refine tkS 28 rfl ?_
 refine tkS 29 rfl ?_
 refine tkS 30 rfl ?_
 refine tkH 31 rfl (v := ?v32) ?h32 ?r32
 case h32 => intro w hSw; (try dsimp only at hSw); go_simp; try (with_reducible rfl)
 refine tkH 32 rfl (v := ?v33) ?h33 ?r33
 case h33 => intro w hSw; (try dsimp only at hSw); go_simp; try (with_reducible rfl)
 try simp only [Act.put, lay1, lay2, lay3, lay4, lay5, lay6]
 try dsimp only
 try simp only [Act.put, lay1, lay2, lay3, lay4, lay5, lay6]
 refine wpAnyH_done (by kernel_rfl) ?_ _
 refine NoPanic.normal ?_
 skip
 obtain ⟨c7, c8, c9, c10, c11, c12⟩ := hA.q6
 have c13 := hF.q1
 go_wp2
 go_ret
 exact ⟨rfl, hB⟩
set_option maxRecDepth 100000 in
set_option maxHeartbeats 8000000 in
theorem aright_c1 (lr b1 b2 eps wd f : Int) (apart : Bool) (w : World) (f0 : 0 ≤ f) (f1 : f ≤ 40) (h0 : 0 ≤ lr) (hx : ¬ (0 < eps)) :
   Calls Tryz.prog 82 #[.agg #[.int .i64 lr, .int .i64 b1, .int .i64 b2, .int .i64 eps, .int .i64 wd, .bool apart], .int .i64 f] w fun e w' => e = .returned (.bool false) ∧ Below w.heap.size w w' := by
 obtain ⟨k, rfl⟩ : ∃ k : Nat, f = (k : Int) := ⟨f.toNat, by omega⟩
 have hk : k ≤ 40 := by omega
 try simp only [Int.toNat_natCast] at *
 have d0 : decide ((k : Int) < 0) = false := decide_eq_false (by omega)
 have d1 : decide (40 < (k : Int)) = false := decide_eq_false (by omega)
 have hO := fun w => aone_any k w hk
 have hb := fun n X w hX => abeta_any n k X w hk hX
 have e0 : decide (0 ≤ lr) = true := decide_eq_true h0
 have e1 : decide (0 < eps) = false := decide_eq_false hx
 generalize 2 ^ k = P at *
 clear hb h0 hx
 obtain ⟨g, hg⟩ : ∃ g, g = w.heap.size := ⟨_, rfl⟩
 obtain ⟨Y0, eY0, hA, bY0⟩ := box1 w 61 #[.int .i64 lr, .int .i64 b1, .int .i64 b2, .int .i64 eps, .int .i64 wd, .bool apart]
 have zY0 : Y0.heap.size = g + 1 := by rw [eY0, World.size_alloc, ← hg]
 rw [← hg] at hA
 have hB := bY0
 obtain ⟨Y1, eY1, hF, bY1⟩ := box1 Y0 3 #[.int .i64 k]
 have zY1 : Y1.heap.size = g + 1 + 1 := by rw [eY1, World.size_alloc, zY0]
 rw [zY0] at hF
 replace hA := hA.below bY1 hA.lt
 replace hB := hB.trans (bY1.mono hB.size)
 have hgw : w.heap.size ≤ g := by omega
 have EY := Lib.hid (And.intro hg (And.intro eY0 eY1))
 clear hg eY0 zY0 eY1 zY1
 obtain ⟨c0, c1, c2, c3, c4, c5⟩ := hA.q6
 have c6 := hF.q1
 go_enter Tryz.func82, Tryz.ntmps82
 go_upto_region 4 with fail
 rw [← EY.out.2.1, ← EY.out.2.2, ← EY.out.1]
 replace hB := hB.drew
 replace hA := hA.drew
 replace hF := hF.drew
 clear c0 c1 c2 c3 c4 c5 c6
 refine wp_region_noPanic ?_
 refine wp_region_held_drew (S := fun w' => w'.cell? ⟨g, 0, none⟩ = some (.int .i64 lr) ∧ w'.cell? ⟨g, 1, none⟩ = some (.int .i64 b1) ∧ w'.cell? ⟨g, 2, none⟩ = some (.int .i64 b2) ∧ w'.cell? ⟨g, 3, none⟩ = some (.int .i64 eps) ∧ w'.cell? ⟨g, 4, none⟩ = some (.int .i64 wd) ∧ w'.cell? ⟨g, 5, none⟩ = some (.bool apart) ∧ w'.cell? ⟨g + 1, 0, none⟩ = some (.int .i64 k)) (by kernel_rfl) ?_ (fun hHeld => ?_)
 · exact ⟨hA.cell 0, hA.cell 1, hA.cell 2, hA.cell 3, hA.cell 4, hA.cell 5, hF.cell 0⟩
 obtain ⟨wd4_1, hwd⟩ : ∃ q, q = Y1.drew := ⟨_, rfl⟩
 rw [← hwd] at hB hA hF hHeld ⊢
 clear hwd
 refine tkH 0 rfl (v := ?v34) ?h34 ?r34
 case h34 => intro w hSw; (try dsimp only at hSw); go_simp; try (with_reducible rfl)
 refine tkH 1 rfl (v := ?v35) ?h35 ?r35
 case h35 => intro w hSw; (try dsimp only at hSw); go_simp; try (with_reducible rfl)
 refine tkH 2 rfl (v := ?v36) ?h36 ?r36
 case h36 => intro w hSw; (try dsimp only at hSw); go_simp; try (with_reducible rfl)
 refine tkH 3 rfl (v := ?v37) ?h37 ?r37
 case h37 => intro w hSw; (try dsimp only at hSw); go_simp; try (with_reducible rfl)
 refine tkH 4 rfl (v := ?v38) ?h38 ?r38
 case h38 => intro w hSw; (try dsimp only at hSw); go_simp; try (with_reducible rfl)
 refine tkH 5 rfl (v := ?v39) ?h39 ?r39
 case h39 => intro w hSw; (try dsimp only at hSw); go_simp; try (with_reducible rfl)
 refine tkH 6 rfl (v := ?v40) ?h40 ?r40
 case h40 => intro w hSw; (try dsimp only at hSw); go_simp; try (with_reducible rfl)
 refine tkH 7 rfl (v := ?v41) ?h41 ?r41
 case h41 => intro w hSw; (try dsimp only at hSw); go_simp; try (with_reducible rfl)
 refine tkH 8 rfl (v := ?v42) ?h42 ?r42
 case h42 => intro w hSw; (try dsimp only at hSw); go_simp; try (with_reducible rfl)
 refine tkS 9 rfl ?_
 refine tkS 10 rfl ?_
 refine tkS 11 rfl ?_
 refine tkS 12 rfl ?_
 refine tkH 13 rfl (v := ?v47) ?h47 ?r47
 case h47 => intro w hSw; (try dsimp only at hSw); go_simp; try (with_reducible rfl)
 refine tkH 14 rfl (v := ?v48) ?h48 ?r48
 case h48 => intro w hSw; (try dsimp only at hSw); go_simp; try (with_reducible rfl)
 refine tkS 15 rfl ?_
 refine tkS 16 rfl ?_
 refine tkS 17 rfl ?_
 refine tkS 18 rfl ?_
 refine tkH 19 rfl (v := ?v53) ?h53 ?r53
 case h53 => intro w hSw; (try dsimp only at hSw); go_simp; try (with_reducible rfl)
 refine tkH 20 rfl (v := ?v54) ?h54 ?r54
 case h54 => intro w hSw; (try dsimp only at hSw); go_simp; try (with_reducible rfl)
 refine tkS 21 rfl ?_
 refine tkS 22 rfl ?_
 refine tkS 23 rfl ?_
 refine tkH 24 rfl (v := ?v58) ?h58 ?r58
 case h58 => intro w hSw; (try dsimp only at hSw); go_simp; try (with_reducible rfl)
 refine tkH 25 rfl (v := ?v59) ?h59 ?r59
 case h59 => intro w hSw; (try dsimp only at hSw); go_simp; try (with_reducible rfl)
 refine tkS 26 rfl ?_
 refine tkS 27 rfl ?_
 refine tkS 28 rfl ?_
 refine tkS 29 rfl ?_
 refine tkS 30 rfl ?_
 refine tkH 31 rfl (v := ?v65) ?h65 ?r65
 case h65 => intro w hSw; (try dsimp only at hSw); go_simp; try (with_reducible rfl)
 refine tkH 32 rfl (v := ?v66) ?h66 ?r66
 case h66 => intro w hSw; (try dsimp only at hSw); go_simp; try (with_reducible rfl)
 try simp only [Act.put, lay1, lay2, lay3, lay4, lay5, lay6]
 try dsimp only
 try simp only [Act.put, lay1, lay2, lay3, lay4, lay5, lay6]
 refine wpAnyH_done (by kernel_rfl) ?_ _
 refine NoPanic.normal ?_
 skip
 obtain ⟨c7, c8, c9, c10, c11, c12⟩ := hA.q6
 have c13 := hF.q1
 go_wp2
 go_ret
 exact ⟨rfl, hB⟩
set_option maxRecDepth 100000 in
set_option maxHeartbeats 8000000 in
theorem aright_c2 (lr b1 b2 eps wd f : Int) (apart : Bool) (w : World) (f0 : 0 ≤ f) (f1 : f ≤ 40) (h0 : 0 ≤ lr) (h1 : 0 < eps) (hx : ¬ (0 ≤ b1 ∧ b1 < ((2 ^ f.toNat : Nat) : Int))) :
   Calls Tryz.prog 82 #[.agg #[.int .i64 lr, .int .i64 b1, .int .i64 b2, .int .i64 eps, .int .i64 wd, .bool apart], .int .i64 f] w fun e w' => e = .returned (.bool false) ∧ Below w.heap.size w w' := by
 obtain ⟨k, rfl⟩ : ∃ k : Nat, f = (k : Int) := ⟨f.toNat, by omega⟩
 have hk : k ≤ 40 := by omega
 try simp only [Int.toNat_natCast] at *
 have d0 : decide ((k : Int) < 0) = false := decide_eq_false (by omega)
 have d1 : decide (40 < (k : Int)) = false := decide_eq_false (by omega)
 have hO := fun w => aone_any k w hk
 have hb := fun n X w hX => abeta_any n k X w hk hX
 have e0 : decide (0 ≤ lr) = true := decide_eq_true h0
 have e1 : decide (0 < eps) = true := decide_eq_true h1
 have hb2 := fun X w hX => hb b1 X w hX
 rw [show (decide (0 ≤ b1) && decide (b1 < ((2 ^ k : Nat) : Int))) = false by rw [← Bool.decide_and]; exact decide_eq_false hx] at hb2
 generalize 2 ^ k = P at *
 clear hb h0 h1 hx
 obtain ⟨g, hg⟩ : ∃ g, g = w.heap.size := ⟨_, rfl⟩
 obtain ⟨Y0, eY0, hA, bY0⟩ := box1 w 61 #[.int .i64 lr, .int .i64 b1, .int .i64 b2, .int .i64 eps, .int .i64 wd, .bool apart]
 have zY0 : Y0.heap.size = g + 1 := by rw [eY0, World.size_alloc, ← hg]
 rw [← hg] at hA
 have hB := bY0
 obtain ⟨Y1, eY1, hF, bY1⟩ := box1 Y0 3 #[.int .i64 k]
 have zY1 : Y1.heap.size = g + 1 + 1 := by rw [eY1, World.size_alloc, zY0]
 rw [zY0] at hF
 replace hA := hA.below bY1 hA.lt
 replace hB := hB.trans (bY1.mono hB.size)
 have hgw : w.heap.size ≤ g := by omega
 have EY := Lib.hid (And.intro hg (And.intro eY0 eY1))
 clear hg eY0 zY0 eY1 zY1
 obtain ⟨c0, c1, c2, c3, c4, c5⟩ := hA.q6
 have c6 := hF.q1
 go_enter Tryz.func82, Tryz.ntmps82
 go_upto_region 4 with fail
 rw [← EY.out.2.1, ← EY.out.2.2, ← EY.out.1]
 replace hB := hB.drew
 replace hA := hA.drew
 replace hF := hF.drew
 clear c0 c1 c2 c3 c4 c5 c6
 refine wp_region_noPanic ?_
 refine wp_region_held_drew (S := fun w' => w'.cell? ⟨g, 0, none⟩ = some (.int .i64 lr) ∧ w'.cell? ⟨g, 1, none⟩ = some (.int .i64 b1) ∧ w'.cell? ⟨g, 2, none⟩ = some (.int .i64 b2) ∧ w'.cell? ⟨g, 3, none⟩ = some (.int .i64 eps) ∧ w'.cell? ⟨g, 4, none⟩ = some (.int .i64 wd) ∧ w'.cell? ⟨g, 5, none⟩ = some (.bool apart) ∧ w'.cell? ⟨g + 1, 0, none⟩ = some (.int .i64 k)) (by kernel_rfl) ?_ (fun hHeld => ?_)
 · exact ⟨hA.cell 0, hA.cell 1, hA.cell 2, hA.cell 3, hA.cell 4, hA.cell 5, hF.cell 0⟩
 obtain ⟨wd4_1, hwd⟩ : ∃ q, q = Y1.drew := ⟨_, rfl⟩
 rw [← hwd] at hB hA hF hHeld ⊢
 clear hwd
 refine tkH 0 rfl (v := ?v67) ?h67 ?r67
 case h67 => intro w hSw; (try dsimp only at hSw); go_simp; try (with_reducible rfl)
 refine tkH 1 rfl (v := ?v68) ?h68 ?r68
 case h68 => intro w hSw; (try dsimp only at hSw); go_simp; try (with_reducible rfl)
 refine tkH 2 rfl (v := ?v69) ?h69 ?r69
 case h69 => intro w hSw; (try dsimp only at hSw); go_simp; try (with_reducible rfl)
 refine tkH 3 rfl (v := ?v70) ?h70 ?r70
 case h70 => intro w hSw; (try dsimp only at hSw); go_simp; try (with_reducible rfl)
 refine tkH 4 rfl (v := ?v71) ?h71 ?r71
 case h71 => intro w hSw; (try dsimp only at hSw); go_simp; try (with_reducible rfl)
 refine tkH 5 rfl (v := ?v72) ?h72 ?r72
 case h72 => intro w hSw; (try dsimp only at hSw); go_simp; try (with_reducible rfl)
 refine tkH 6 rfl (v := ?v73) ?h73 ?r73
 case h73 => intro w hSw; (try dsimp only at hSw); go_simp; try (with_reducible rfl)
 refine tkH 7 rfl (v := ?v74) ?h74 ?r74
 case h74 => intro w hSw; (try dsimp only at hSw); go_simp; try (with_reducible rfl)
 refine tkH 8 rfl (v := ?v75) ?h75 ?r75
 case h75 => intro w hSw; (try dsimp only at hSw); go_simp; try (with_reducible rfl)
 refine tkH 9 rfl (v := ?v76) ?h76 ?r76
 case h76 => intro w hSw; (try dsimp only at hSw); go_simp; try (with_reducible rfl)
 refine tkH 10 rfl (v := ?v77) ?h77 ?r77
 case h77 => intro w hSw; (try dsimp only at hSw); go_simp; try (with_reducible rfl)
 refine tkH 11 rfl (v := ?v78) ?h78 ?r78
 case h78 => intro w hSw; (try dsimp only at hSw); go_simp; try (with_reducible rfl)
 try simp only [Act.put, lay1, lay2, lay3, lay4, lay5, lay6]
 refine rd1 12 rfl fun K hK => ?_
 go_simp
 refine (hb2 _ _ hF).mono ?_
 rintro e u4_1 ⟨rfl, rfl⟩
 go_wp2_with fail
 refine hK.out _ _ ?_ (fun hHeld => ?_)
 · exact ⟨hA.cell 0, hA.cell 1, hA.cell 2, hA.cell 3, hA.cell 4, hA.cell 5, hF.cell 0⟩
 clear hK K
 refine tkH 13 rfl (v := ?v79) ?h79 ?r79
 case h79 => intro w hSw; (try dsimp only at hSw); go_simp; try (with_reducible rfl)
 refine tkH 14 rfl (v := ?v80) ?h80 ?r80
 case h80 => intro w hSw; (try dsimp only at hSw); go_simp; try (with_reducible rfl)
 refine tkS 15 rfl ?_
 refine tkS 16 rfl ?_
 refine tkS 17 rfl ?_
 refine tkS 18 rfl ?_
 refine tkH 19 rfl (v := ?v85) ?h85 ?r85
 case h85 => intro w hSw; (try dsimp only at hSw); go_simp; try (with_reducible rfl)
 refine tkH 20 rfl (v := ?v86) ?h86 ?r86
 case h86 => intro w hSw; (try dsimp only at hSw); go_simp; try (with_reducible rfl)
 refine tkS 21 rfl ?_
 refine tkS 22 rfl ?_
 refine tkS 23 rfl ?_
 refine tkH 24 rfl (v := ?v90) ?h90 ?r90
 case h90 => intro w hSw; (try dsimp only at hSw); go_simp; try (with_reducible rfl)
 refine tkH 25 rfl (v := ?v91) ?h91 ?r91
 case h91 => intro w hSw; (try dsimp only at hSw); go_simp; try (with_reducible rfl)
 refine tkS 26 rfl ?_
 refine tkS 27 rfl ?_
 refine tkS 28 rfl ?_
 refine tkS 29 rfl ?_
 refine tkS 30 rfl ?_
 refine tkH 31 rfl (v := ?v97) ?h97 ?r97
 case h97 => intro w hSw; (try dsimp only at hSw); go_simp; try (with_reducible rfl)
 refine tkH 32 rfl (v := ?v98) ?h98 ?r98
 case h98 => intro w hSw; (try dsimp only at hSw); go_simp; try (with_reducible rfl)
 try simp only [Act.put, lay1, lay2, lay3, lay4, lay5, lay6]
 try dsimp only
 try simp only [Act.put, lay1, lay2, lay3, lay4, lay5, lay6]
 refine wpAnyH_done (by kernel_rfl) ?_ _
 refine NoPanic.normal ?_
 skip
 obtain ⟨c7, c8, c9, c10, c11, c12⟩ := hA.q6
 have c13 := hF.q1
 go_wp2
 go_ret
 exact ⟨rfl, hB⟩
set_option maxRecDepth 100000 in
set_option maxHeartbeats 8000000 in
theorem aright_c3 (lr b1 b2 eps wd f : Int) (apart : Bool) (w : World) (f0 : 0 ≤ f) (f1 : f ≤ 40) (h0 : 0 ≤ lr) (h1 : 0 < eps) (h2 : 0 ≤ b1 ∧ b1 < ((2 ^ f.toNat : Nat) : Int)) (hx : ¬ (0 ≤ b2 ∧ b2 < ((2 ^ f.toNat : Nat) : Int))) :
   Calls Tryz.prog 82 #[.agg #[.int .i64 lr, .int .i64 b1, .int .i64 b2, .int .i64 eps, .int .i64 wd, .bool apart], .int .i64 f] w fun e w' => e = .returned (.bool false) ∧ Below w.heap.size w w' := by
 obtain ⟨k, rfl⟩ : ∃ k : Nat, f = (k : Int) := ⟨f.toNat, by omega⟩
 have hk : k ≤ 40 := by omega
 try simp only [Int.toNat_natCast] at *
 have d0 : decide ((k : Int) < 0) = false := decide_eq_false (by omega)
 have d1 : decide (40 < (k : Int)) = false := decide_eq_false (by omega)
 have hO := fun w => aone_any k w hk
 have hb := fun n X w hX => abeta_any n k X w hk hX
 have e0 : decide (0 ≤ lr) = true := decide_eq_true h0
 have e1 : decide (0 < eps) = true := decide_eq_true h1
 have hb2 := fun X w hX => hb b1 X w hX
 rw [show (decide (0 ≤ b1) && decide (b1 < ((2 ^ k : Nat) : Int))) = true by simp [h2.1]; simpa using h2.2] at hb2
 have hb3 := fun X w hX => hb b2 X w hX
 rw [show (decide (0 ≤ b2) && decide (b2 < ((2 ^ k : Nat) : Int))) = false by rw [← Bool.decide_and]; exact decide_eq_false hx] at hb3
 generalize 2 ^ k = P at *
 clear hb h0 h1 h2 hx
 obtain ⟨g, hg⟩ : ∃ g, g = w.heap.size := ⟨_, rfl⟩
 obtain ⟨Y0, eY0, hA, bY0⟩ := box1 w 61 #[.int .i64 lr, .int .i64 b1, .int .i64 b2, .int .i64 eps, .int .i64 wd, .bool apart]
 have zY0 : Y0.heap.size = g + 1 := by rw [eY0, World.size_alloc, ← hg]
 rw [← hg] at hA
 have hB := bY0
 obtain ⟨Y1, eY1, hF, bY1⟩ := box1 Y0 3 #[.int .i64 k]
 have zY1 : Y1.heap.size = g + 1 + 1 := by rw [eY1, World.size_alloc, zY0]
 rw [zY0] at hF
 replace hA := hA.below bY1 hA.lt
 replace hB := hB.trans (bY1.mono hB.size)
 have hgw : w.heap.size ≤ g := by omega
 have EY := Lib.hid (And.intro hg (And.intro eY0 eY1))
 clear hg eY0 zY0 eY1 zY1
 obtain ⟨c0, c1, c2, c3, c4, c5⟩ := hA.q6
 have c6 := hF.q1
 go_enter Tryz.func82, Tryz.ntmps82
 go_upto_region 4 with fail
 rw [← EY.out.2.1, ← EY.out.2.2, ← EY.out.1]
 replace hB := hB.drew
 replace hA := hA.drew
 replace hF := hF.drew
 clear c0 c1 c2 c3 c4 c5 c6
 refine wp_region_noPanic ?_
 refine wp_region_held_drew (S := fun w' => w'.cell? ⟨g, 0, none⟩ = some (.int .i64 lr) ∧ w'.cell? ⟨g, 1, none⟩ = some (.int .i64 b1) ∧ w'.cell? ⟨g, 2, none⟩ = some (.int .i64 b2) ∧ w'.cell? ⟨g, 3, none⟩ = some (.int .i64 eps) ∧ w'.cell? ⟨g, 4, none⟩ = some (.int .i64 wd) ∧ w'.cell? ⟨g, 5, none⟩ = some (.bool apart) ∧ w'.cell? ⟨g + 1, 0, none⟩ = some (.int .i64 k)) (by kernel_rfl) ?_ (fun hHeld => ?_)
 · exact ⟨hA.cell 0, hA.cell 1, hA.cell 2, hA.cell 3, hA.cell 4, hA.cell 5, hF.cell 0⟩
 obtain ⟨wd4_1, hwd⟩ : ∃ q, q = Y1.drew := ⟨_, rfl⟩
 rw [← hwd] at hB hA hF hHeld ⊢
 clear hwd
 refine tkH 0 rfl (v := ?v99) ?h99 ?r99
 case h99 => intro w hSw; (try dsimp only at hSw); go_simp; try (with_reducible rfl)
 refine tkH 1 rfl (v := ?v100) ?h100 ?r100
 case h100 => intro w hSw; (try dsimp only at hSw); go_simp; try (with_reducible rfl)
 refine tkH 2 rfl (v := ?v101) ?h101 ?r101
 case h101 => intro w hSw; (try dsimp only at hSw); go_simp; try (with_reducible rfl)
 refine tkH 3 rfl (v := ?v102) ?h102 ?r102
 case h102 => intro w hSw; (try dsimp only at hSw); go_simp; try (with_reducible rfl)
 refine tkH 4 rfl (v := ?v103) ?h103 ?r103
 case h103 => intro w hSw; (try dsimp only at hSw); go_simp; try (with_reducible rfl)
 refine tkH 5 rfl (v := ?v104) ?h104 ?r104
 case h104 => intro w hSw; (try dsimp only at hSw); go_simp; try (with_reducible rfl)
 refine tkH 6 rfl (v := ?v105) ?h105 ?r105
 case h105 => intro w hSw; (try dsimp only at hSw); go_simp; try (with_reducible rfl)
 refine tkH 7 rfl (v := ?v106) ?h106 ?r106
 case h106 => intro w hSw; (try dsimp only at hSw); go_simp; try (with_reducible rfl)
 refine tkH 8 rfl (v := ?v107) ?h107 ?r107
 case h107 => intro w hSw; (try dsimp only at hSw); go_simp; try (with_reducible rfl)
 refine tkH 9 rfl (v := ?v108) ?h108 ?r108
 case h108 => intro w hSw; (try dsimp only at hSw); go_simp; try (with_reducible rfl)
 refine tkH 10 rfl (v := ?v109) ?h109 ?r109
 case h109 => intro w hSw; (try dsimp only at hSw); go_simp; try (with_reducible rfl)
 refine tkH 11 rfl (v := ?v110) ?h110 ?r110
 case h110 => intro w hSw; (try dsimp only at hSw); go_simp; try (with_reducible rfl)
 try simp only [Act.put, lay1, lay2, lay3, lay4, lay5, lay6]
 refine rd1 12 rfl fun K hK => ?_
 go_simp
 refine (hb2 _ _ hF).mono ?_
 rintro e u4_1 ⟨rfl, rfl⟩
 go_wp2_with fail
 refine hK.out _ _ ?_ (fun hHeld => ?_)
 · exact ⟨hA.cell 0, hA.cell 1, hA.cell 2, hA.cell 3, hA.cell 4, hA.cell 5, hF.cell 0⟩
 clear hK K
 refine tkH 13 rfl (v := ?v111) ?h111 ?r111
 case h111 => intro w hSw; (try dsimp only at hSw); go_simp; try (with_reducible rfl)
 refine tkH 14 rfl (v := ?v112) ?h112 ?r112
 case h112 => intro w hSw; (try dsimp only at hSw); go_simp; try (with_reducible rfl)
 refine tkH 15 rfl (v := ?v113) ?h113 ?r113
 case h113 => intro w hSw; (try dsimp only at hSw); go_simp; try (with_reducible rfl)
 refine tkH 16 rfl (v := ?v114) ?h114 ?r114
 case h114 => intro w hSw; (try dsimp only at hSw); go_simp; try (with_reducible rfl)
 refine tkH 17 rfl (v := ?v115) ?h115 ?r115
 case h115 => intro w hSw; (try dsimp only at hSw); go_simp; try (with_reducible rfl)
 try simp only [Act.put, lay1, lay2, lay3, lay4, lay5, lay6]
 refine rd1 18 rfl fun K hK => ?_
 go_simp
 refine (hb3 _ _ hF).mono ?_
 rintro e u4_2 ⟨rfl, rfl⟩
 go_wp2_with fail
 refine hK.out _ _ ?_ (fun hHeld => ?_)
 · exact ⟨hA.cell 0, hA.cell 1, hA.cell 2, hA.cell 3, hA.cell 4, hA.cell 5, hF.cell 0⟩
 clear hK K
 refine tkH 19 rfl (v := ?v116) ?h116 ?r116
 case h116 => intro w hSw; (try dsimp only at hSw); go_simp; try (with_reducible rfl)
 refine tkH 20 rfl (v := ?v117) ?h117 ?r117
 case h117 => intro w hSw; (try dsimp only at hSw); go_simp; try (with_reducible rfl)
 refine tkS 21 rfl ?_
 refine tkS 22 rfl ?_
 refine tkS 23 rfl ?_
 refine tkH 24 rfl (v := ?v121) ?h121 ?r121
 case h121 => intro w hSw; (try dsimp only at hSw); go_simp; try (with_reducible rfl)
 refine tkH 25 rfl (v := ?v122) ?h122 ?r122
 case h122 => intro w hSw; (try dsimp only at hSw); go_simp; try (with_reducible rfl)
 refine tkS 26 rfl ?_
 refine tkS 27 rfl ?_
 refine tkS 28 rfl ?_
 refine tkS 29 rfl ?_
 refine tkS 30 rfl ?_
 refine tkH 31 rfl (v := ?v128) ?h128 ?r128
 case h128 => intro w hSw; (try dsimp only at hSw); go_simp; try (with_reducible rfl)
 refine tkH 32 rfl (v := ?v129) ?h129 ?r129
 case h129 => intro w hSw; (try dsimp only at hSw); go_simp; try (with_reducible rfl)
 try simp only [Act.put, lay1, lay2, lay3, lay4, lay5, lay6]
 try dsimp only
 try simp only [Act.put, lay1, lay2, lay3, lay4, lay5, lay6]
 refine wpAnyH_done (by kernel_rfl) ?_ _
 refine NoPanic.normal ?_
 skip
 obtain ⟨c7, c8, c9, c10, c11, c12⟩ := hA.q6
 have c13 := hF.q1
 go_wp2
 go_ret
 exact ⟨rfl, hB⟩
set_option maxRecDepth 100000 in
set_option maxHeartbeats 8000000 in
theorem aright_c4 (lr b1 b2 eps wd f : Int) (apart : Bool) (w : World) (f0 : 0 ≤ f) (f1 : f ≤ 40) (h0 : 0 ≤ lr) (h1 : 0 < eps) (h2 : 0 ≤ b1 ∧ b1 < ((2 ^ f.toNat : Nat) : Int)) (h3 : 0 ≤ b2 ∧ b2 < ((2 ^ f.toNat : Nat) : Int)) (hx : ¬ (0 ≤ wd)) :
   Calls Tryz.prog 82 #[.agg #[.int .i64 lr, .int .i64 b1, .int .i64 b2, .int .i64 eps, .int .i64 wd, .bool apart], .int .i64 f] w fun e w' => e = .returned (.bool false) ∧ Below w.heap.size w w' := by
 obtain ⟨k, rfl⟩ : ∃ k : Nat, f = (k : Int) := ⟨f.toNat, by omega⟩
 have hk : k ≤ 40 := by omega
 try simp only [Int.toNat_natCast] at *
 have d0 : decide ((k : Int) < 0) = false := decide_eq_false (by omega)
 have d1 : decide (40 < (k : Int)) = false := decide_eq_false (by omega)
 have hO := fun w => aone_any k w hk
 have hb := fun n X w hX => abeta_any n k X w hk hX
 have e0 : decide (0 ≤ lr) = true := decide_eq_true h0
 have e1 : decide (0 < eps) = true := decide_eq_true h1
 have hb2 := fun X w hX => hb b1 X w hX
 rw [show (decide (0 ≤ b1) && decide (b1 < ((2 ^ k : Nat) : Int))) = true by simp [h2.1]; simpa using h2.2] at hb2
 have hb3 := fun X w hX => hb b2 X w hX
 rw [show (decide (0 ≤ b2) && decide (b2 < ((2 ^ k : Nat) : Int))) = true by simp [h3.1]; simpa using h3.2] at hb3
 have e4 : decide (0 ≤ wd) = false := decide_eq_false hx
 generalize 2 ^ k = P at *
 clear hb h0 h1 h2 h3 hx
 obtain ⟨g, hg⟩ : ∃ g, g = w.heap.size := ⟨_, rfl⟩
 obtain ⟨Y0, eY0, hA, bY0⟩ := box1 w 61 #[.int .i64 lr, .int .i64 b1, .int .i64 b2, .int .i64 eps, .int .i64 wd, .bool apart]
 have zY0 : Y0.heap.size = g + 1 := by rw [eY0, World.size_alloc, ← hg]
 rw [← hg] at hA
 have hB := bY0
 obtain ⟨Y1, eY1, hF, bY1⟩ := box1 Y0 3 #[.int .i64 k]
 have zY1 : Y1.heap.size = g + 1 + 1 := by rw [eY1, World.size_alloc, zY0]
 rw [zY0] at hF
 replace hA := hA.below bY1 hA.lt
 replace hB := hB.trans (bY1.mono hB.size)
 have hgw : w.heap.size ≤ g := by omega
 have EY := Lib.hid (And.intro hg (And.intro eY0 eY1))
 clear hg eY0 zY0 eY1 zY1
 obtain ⟨c0, c1, c2, c3, c4, c5⟩ := hA.q6
 have c6 := hF.q1
 go_enter Tryz.func82, Tryz.ntmps82
 go_upto_region 4 with fail
 rw [← EY.out.2.1, ← EY.out.2.2, ← EY.out.1]
 replace hB := hB.drew
 replace hA := hA.drew
 replace hF := hF.drew
 clear c0 c1 c2 c3 c4 c5 c6
 refine wp_region_noPanic ?_
 refine wp_region_held_drew (S := fun w' => w'.cell? ⟨g, 0, none⟩ = some (.int .i64 lr) ∧ w'.cell? ⟨g, 1, none⟩ = some (.int .i64 b1) ∧ w'.cell? ⟨g, 2, none⟩ = some (.int .i64 b2) ∧ w'.cell? ⟨g, 3, none⟩ = some (.int .i64 eps) ∧ w'.cell? ⟨g, 4, none⟩ = some (.int .i64 wd) ∧ w'.cell? ⟨g, 5, none⟩ = some (.bool apart) ∧ w'.cell? ⟨g + 1, 0, none⟩ = some (.int .i64 k)) (by kernel_rfl) ?_ (fun hHeld => ?_)
 · exact ⟨hA.cell 0, hA.cell 1, hA.cell 2, hA.cell 3, hA.cell 4, hA.cell 5, hF.cell 0⟩
 obtain ⟨wd4_1, hwd⟩ : ∃ q, q = Y1.drew := ⟨_, rfl⟩
 rw [← hwd] at hB hA hF hHeld ⊢
 clear hwd
 refine tkH 0 rfl (v := ?v130) ?h130 ?r130
 case h130 => intro w hSw; (try dsimp only at hSw); go_simp; try (with_reducible rfl)
 refine tkH 1 rfl (v := ?v131) ?h131 ?r131
 case h131 => intro w hSw; (try dsimp only at hSw); go_simp; try (with_reducible rfl)
 refine tkH 2 rfl (v := ?v132) ?h132 ?r132
 case h132 => intro w hSw; (try dsimp only at hSw); go_simp; try (with_reducible rfl)
 refine tkH 3 rfl (v := ?v133) ?h133 ?r133
 case h133 => intro w hSw; (try dsimp only at hSw); go_simp; try (with_reducible rfl)
 refine tkH 4 rfl (v := ?v134) ?h134 ?r134
 case h134 => intro w hSw; (try dsimp only at hSw); go_simp; try (with_reducible rfl)
 refine tkH 5 rfl (v := ?v135) ?h135 ?r135
 case h135 => intro w hSw; (try dsimp only at hSw); go_simp; try (with_reducible rfl)
 refine tkH 6 rfl (v := ?v136) ?h136 ?r136
 case h136 => intro w hSw; (try dsimp only at hSw); go_simp; try (with_reducible rfl)
 refine tkH 7 rfl (v := ?v137) ?h137 ?r137
 case h137 => intro w hSw; (try dsimp only at hSw); go_simp; try (with_reducible rfl)
 refine tkH 8 rfl (v := ?v138) ?h138 ?r138
 case h138 => intro w hSw; (try dsimp only at hSw); go_simp; try (with_reducible rfl)
 refine tkH 9 rfl (v := ?v139) ?h139 ?r139
 case h139 => intro w hSw; (try dsimp only at hSw); go_simp; try (with_reducible rfl)
 refine tkH 10 rfl (v := ?v140) ?h140 ?r140
 case h140 => intro w hSw; (try dsimp only at hSw); go_simp; try (with_reducible rfl)
 refine tkH 11 rfl (v := ?v141) ?h141 ?r141
 case h141 => intro w hSw; (try dsimp only at hSw); go_simp; try (with_reducible rfl)
 try simp only [Act.put, lay1, lay2, lay3, lay4, lay5, lay6]
 refine rd1 12 rfl fun K hK => ?_
 go_simp
 refine (hb2 _ _ hF).mono ?_
 rintro e u4_1 ⟨rfl, rfl⟩
 go_wp2_with fail
 refine hK.out _ _ ?_ (fun hHeld => ?_)
 · exact ⟨hA.cell 0, hA.cell 1, hA.cell 2, hA.cell 3, hA.cell 4, hA.cell 5, hF.cell 0⟩
 clear hK K
 refine tkH 13 rfl (v := ?v142) ?h142 ?r142
 case h142 => intro w hSw; (try dsimp only at hSw); go_simp; try (with_reducible rfl)
 refine tkH 14 rfl (v := ?v143) ?h143 ?r143
 case h143 => intro w hSw; (try dsimp only at hSw); go_simp; try (with_reducible rfl)
 refine tkH 15 rfl (v := ?v144) ?h144 ?r144
 case h144 => intro w hSw; (try dsimp only at hSw); go_simp; try (with_reducible rfl)
 refine tkH 16 rfl (v := ?v145) ?h145 ?r145
 case h145 => intro w hSw; (try dsimp only at hSw); go_simp; try (with_reducible rfl)
 refine tkH 17 rfl (v := ?v146) ?h146 ?r146
 case h146 => intro w hSw; (try dsimp only at hSw); go_simp; try (with_reducible rfl)
 try simp only [Act.put, lay1, lay2, lay3, lay4, lay5, lay6]
 refine rd1 18 rfl fun K hK => ?_
 go_simp
 refine (hb3 _ _ hF).mono ?_
 rintro e u4_2 ⟨rfl, rfl⟩
 go_wp2_with fail
 refine hK.out _ _ ?_ (fun hHeld => ?_)
 · exact ⟨hA.cell 0, hA.cell 1, hA.cell 2, hA.cell 3, hA.cell 4, hA.cell 5, hF.cell 0⟩
 clear hK K
 refine tkH 19 rfl (v := ?v147) ?h147 ?r147
 case h147 => intro w hSw; (try dsimp only at hSw); go_simp; try (with_reducible rfl)
 refine tkH 20 rfl (v := ?v148) ?h148 ?r148
 case h148 => intro w hSw; (try dsimp only at hSw); go_simp; try (with_reducible rfl)
 refine tkH 21 rfl (v := ?v149) ?h149 ?r149
 case h149 => intro w hSw; (try dsimp only at hSw); go_simp; try (with_reducible rfl)
 refine tkH 22 rfl (v := ?v150) ?h150 ?r150
 case h150 => intro w hSw; (try dsimp only at hSw); go_simp; try (with_reducible rfl)
 refine tkH 23 rfl (v := ?v151) ?h151 ?r151
 case h151 => intro w hSw; (try dsimp only at hSw); go_simp; try (with_reducible rfl)
 refine tkH 24 rfl (v := ?v152) ?h152 ?r152
 case h152 => intro w hSw; (try dsimp only at hSw); go_simp; try (with_reducible rfl)
 refine tkH 25 rfl (v := ?v153) ?h153 ?r153
 case h153 => intro w hSw; (try dsimp only at hSw); go_simp; try (with_reducible rfl)
 refine tkS 26 rfl ?_
 refine tkS 27 rfl ?_
 refine tkS 28 rfl ?_
 refine tkS 29 rfl ?_
 refine tkS 30 rfl ?_
 refine tkH 31 rfl (v := ?v159) ?h159 ?r159
 case h159 => intro w hSw; (try dsimp only at hSw); go_simp; try (with_reducible rfl)
 refine tkH 32 rfl (v := ?v160) ?h160 ?r160
 case h160 => intro w hSw; (try dsimp only at hSw); go_simp; try (with_reducible rfl)
 try simp only [Act.put, lay1, lay2, lay3, lay4, lay5, lay6]
 try dsimp only
 try simp only [Act.put, lay1, lay2, lay3, lay4, lay5, lay6]
 refine wpAnyH_done (by kernel_rfl) ?_ _
 refine NoPanic.normal ?_
 skip
 obtain ⟨c7, c8, c9, c10, c11, c12⟩ := hA.q6
 have c13 := hF.q1
 go_wp2
 go_ret
 exact ⟨rfl, hB⟩
set_option maxRecDepth 100000 in
set_option maxHeartbeats 8000000 in
theorem aright_c5 (lr b1 b2 eps wd f : Int) (apart : Bool) (w : World) (f0 : 0 ≤ f) (f1 : f ≤ 40) (h0 : 0 ≤ lr) (h1 : 0 < eps) (h2 : 0 ≤ b1 ∧ b1 < ((2 ^ f.toNat : Nat) : Int)) (h3 : 0 ≤ b2 ∧ b2 < ((2 ^ f.toNat : Nat) : Int)) (h4 : 0 ≤ wd) (hx : ¬ (wd ≤ ((2 ^ f.toNat : Nat) : Int))) :
   Calls Tryz.prog 82 #[.agg #[.int .i64 lr, .int .i64 b1, .int .i64 b2, .int .i64 eps, .int .i64 wd, .bool apart], .int .i64 f] w fun e w' => e = .returned (.bool false) ∧ Below w.heap.size w w' := by
 obtain ⟨k, rfl⟩ : ∃ k : Nat, f = (k : Int) := ⟨f.toNat, by omega⟩
 have hk : k ≤ 40 := by omega
 try simp only [Int.toNat_natCast] at *
 have d0 : decide ((k : Int) < 0) = false := decide_eq_false (by omega)
 have d1 : decide (40 < (k : Int)) = false := decide_eq_false (by omega)
 have hO := fun w => aone_any k w hk
 have hb := fun n X w hX => abeta_any n k X w hk hX
 have e0 : decide (0 ≤ lr) = true := decide_eq_true h0
 have e1 : decide (0 < eps) = true := decide_eq_true h1
 have hb2 := fun X w hX => hb b1 X w hX
 rw [show (decide (0 ≤ b1) && decide (b1 < ((2 ^ k : Nat) : Int))) = true by simp [h2.1]; simpa using h2.2] at hb2
 have hb3 := fun X w hX => hb b2 X w hX
 rw [show (decide (0 ≤ b2) && decide (b2 < ((2 ^ k : Nat) : Int))) = true by simp [h3.1]; simpa using h3.2] at hb3
 have e4 : decide (0 ≤ wd) = true := decide_eq_true h4
 have e5 : decide (wd ≤ ((2 ^ k : Nat) : Int)) = false := decide_eq_false hx
 generalize 2 ^ k = P at *
 clear hb h0 h1 h2 h3 h4 hx
 obtain ⟨g, hg⟩ : ∃ g, g = w.heap.size := ⟨_, rfl⟩
 obtain ⟨Y0, eY0, hA, bY0⟩ := box1 w 61 #[.int .i64 lr, .int .i64 b1, .int .i64 b2, .int .i64 eps, .int .i64 wd, .bool apart]
 have zY0 : Y0.heap.size = g + 1 := by rw [eY0, World.size_alloc, ← hg]
 rw [← hg] at hA
 have hB := bY0
 obtain ⟨Y1, eY1, hF, bY1⟩ := box1 Y0 3 #[.int .i64 k]
 have zY1 : Y1.heap.size = g + 1 + 1 := by rw [eY1, World.size_alloc, zY0]
 rw [zY0] at hF
 replace hA := hA.below bY1 hA.lt
 replace hB := hB.trans (bY1.mono hB.size)
 have hgw : w.heap.size ≤ g := by omega
 have EY := Lib.hid (And.intro hg (And.intro eY0 eY1))
 clear hg eY0 zY0 eY1 zY1
 obtain ⟨c0, c1, c2, c3, c4, c5⟩ := hA.q6
 have c6 := hF.q1
 go_enter Tryz.func82, Tryz.ntmps82
 go_upto_region 4 with fail
 rw [← EY.out.2.1, ← EY.out.2.2, ← EY.out.1]
 replace hB := hB.drew
 replace hA := hA.drew
 replace hF := hF.drew
 clear c0 c1 c2 c3 c4 c5 c6
 refine wp_region_noPanic ?_
 refine wp_region_held_drew (S := fun w' => w'.cell? ⟨g, 0, none⟩ = some (.int .i64 lr) ∧ w'.cell? ⟨g, 1, none⟩ = some (.int .i64 b1) ∧ w'.cell? ⟨g, 2, none⟩ = some (.int .i64 b2) ∧ w'.cell? ⟨g, 3, none⟩ = some (.int .i64 eps) ∧ w'.cell? ⟨g, 4, none⟩ = some (.int .i64 wd) ∧ w'.cell? ⟨g, 5, none⟩ = some (.bool apart) ∧ w'.cell? ⟨g + 1, 0, none⟩ = some (.int .i64 k)) (by kernel_rfl) ?_ (fun hHeld => ?_)
 · exact ⟨hA.cell 0, hA.cell 1, hA.cell 2, hA.cell 3, hA.cell 4, hA.cell 5, hF.cell 0⟩
 obtain ⟨wd4_1, hwd⟩ : ∃ q, q = Y1.drew := ⟨_, rfl⟩
 rw [← hwd] at hB hA hF hHeld ⊢
 clear hwd
 refine tkH 0 rfl (v := ?v161) ?h161 ?r161
 case h161 => intro w hSw; (try dsimp only at hSw); go_simp; try (with_reducible rfl)
 refine tkH 1 rfl (v := ?v162) ?h162 ?r162
 case h162 => intro w hSw; (try dsimp only at hSw); go_simp; try (with_reducible rfl)
 refine tkH 2 rfl (v := ?v163) ?h163 ?r163
 case h163 => intro w hSw; (try dsimp only at hSw); go_simp; try (with_reducible rfl)
 refine tkH 3 rfl (v := ?v164) ?h164 ?r164
 case h164 => intro w hSw; (try dsimp only at hSw); go_simp; try (with_reducible rfl)
 refine tkH 4 rfl (v := ?v165) ?h165 ?r165
 case h165 => intro w hSw; (try dsimp only at hSw); go_simp; try (with_reducible rfl)
 refine tkH 5 rfl (v := ?v166) ?h166 ?r166
 case h166 => intro w hSw; (try dsimp only at hSw); go_simp; try (with_reducible rfl)
 refine tkH 6 rfl (v := ?v167) ?h167 ?r167
 case h167 => intro w hSw; (try dsimp only at hSw); go_simp; try (with_reducible rfl)
 refine tkH 7 rfl (v := ?v168) ?h168 ?r168
 case h168 => intro w hSw; (try dsimp only at hSw); go_simp; try (with_reducible rfl)
 refine tkH 8 rfl (v := ?v169) ?h169 ?r169
 case h169 => intro w hSw; (try dsimp only at hSw); go_simp; try (with_reducible rfl)
 refine tkH 9 rfl (v := ?v170) ?h170 ?r170
 case h170 => intro w hSw; (try dsimp only at hSw); go_simp; try (with_reducible rfl)
 refine tkH 10 rfl (v := ?v171) ?h171 ?r171
 case h171 => intro w hSw; (try dsimp only at hSw); go_simp; try (with_reducible rfl)
 refine tkH 11 rfl (v := ?v172) ?h172 ?r172
 case h172 => intro w hSw; (try dsimp only at hSw); go_simp; try (with_reducible rfl)
 try simp only [Act.put, lay1, lay2, lay3, lay4, lay5, lay6]
 refine rd1 12 rfl fun K hK => ?_
 go_simp
 refine (hb2 _ _ hF).mono ?_
 rintro e u4_1 ⟨rfl, rfl⟩
 go_wp2_with fail
 refine hK.out _ _ ?_ (fun hHeld => ?_)
 · exact ⟨hA.cell 0, hA.cell 1, hA.cell 2, hA.cell 3, hA.cell 4, hA.cell 5, hF.cell 0⟩
 clear hK K
 refine tkH 13 rfl (v := ?v173) ?h173 ?r173
 case h173 => intro w hSw; (try dsimp only at hSw); go_simp; try (with_reducible rfl)
 refine tkH 14 rfl (v := ?v174) ?h174 ?r174
 case h174 => intro w hSw; (try dsimp only at hSw); go_simp; try (with_reducible rfl)
 refine tkH 15 rfl (v := ?v175) ?h175 ?r175
 case h175 => intro w hSw; (try dsimp only at hSw); go_simp; try (with_reducible rfl)
 refine tkH 16 rfl (v := ?v176) ?h176 ?r176
 case h176 => intro w hSw; (try dsimp only at hSw); go_simp; try (with_reducible rfl)
 refine tkH 17 rfl (v := ?v177) ?h177 ?r177
 case h177 => intro w hSw; (try dsimp only at hSw); go_simp; try (with_reducible rfl)
 try simp only [Act.put, lay1, lay2, lay3, lay4, lay5, lay6]
 refine rd1 18 rfl fun K hK => ?_
 go_simp
 refine (hb3 _ _ hF).mono ?_
 rintro e u4_2 ⟨rfl, rfl⟩
 go_wp2_with fail
 refine hK.out _ _ ?_ (fun hHeld => ?_)
 · exact ⟨hA.cell 0, hA.cell 1, hA.cell 2, hA.cell 3, hA.cell 4, hA.cell 5, hF.cell 0⟩
 clear hK K
 refine tkH 19 rfl (v := ?v178) ?h178 ?r178
 case h178 => intro w hSw; (try dsimp only at hSw); go_simp; try (with_reducible rfl)
 refine tkH 20 rfl (v := ?v179) ?h179 ?r179
 case h179 => intro w hSw; (try dsimp only at hSw); go_simp; try (with_reducible rfl)
 refine tkH 21 rfl (v := ?v180) ?h180 ?r180
 case h180 => intro w hSw; (try dsimp only at hSw); go_simp; try (with_reducible rfl)
 refine tkH 22 rfl (v := ?v181) ?h181 ?r181
 case h181 => intro w hSw; (try dsimp only at hSw); go_simp; try (with_reducible rfl)
 refine tkH 23 rfl (v := ?v182) ?h182 ?r182
 case h182 => intro w hSw; (try dsimp only at hSw); go_simp; try (with_reducible rfl)
 refine tkH 24 rfl (v := ?v183) ?h183 ?r183
 case h183 => intro w hSw; (try dsimp only at hSw); go_simp; try (with_reducible rfl)
 refine tkH 25 rfl (v := ?v184) ?h184 ?r184
 case h184 => intro w hSw; (try dsimp only at hSw); go_simp; try (with_reducible rfl)
 refine tkH 26 rfl (v := ?v185) ?h185 ?r185
 case h185 => intro w hSw; (try dsimp only at hSw); go_simp; try (with_reducible rfl)
 refine tkH 27 rfl (v := ?v186) ?h186 ?r186
 case h186 => intro w hSw; (try dsimp only at hSw); go_simp; try (with_reducible rfl)
 refine tkH 28 rfl (v := ?v187) ?h187 ?r187
 case h187 => intro w hSw; (try dsimp only at hSw); go_simp; try (with_reducible rfl)
 try simp only [Act.put, lay1, lay2, lay3, lay4, lay5, lay6]
 refine rd1 29 rfl fun K hK => ?_
 go_simp
 refine (hO _).mono ?_
 rintro e u4_3 ⟨rfl, rfl⟩
 go_wp2_with fail
 refine hK.out _ _ ?_ (fun hHeld => ?_)
 · exact ⟨hA.cell 0, hA.cell 1, hA.cell 2, hA.cell 3, hA.cell 4, hA.cell 5, hF.cell 0⟩
 clear hK K
 refine tkH 30 rfl (v := ?v188) ?h188 ?r188
 case h188 => intro w hSw; (try dsimp only at hSw); go_simp; try (with_reducible rfl)
 refine tkH 31 rfl (v := ?v189) ?h189 ?r189
 case h189 => intro w hSw; (try dsimp only at hSw); go_simp; try (with_reducible rfl)
 refine tkH 32 rfl (v := ?v190) ?h190 ?r190
 case h190 => intro w hSw; (try dsimp only at hSw); go_simp; try (with_reducible rfl)
 try simp only [Act.put, lay1, lay2, lay3, lay4, lay5, lay6]
 try dsimp only
 try simp only [Act.put, lay1, lay2, lay3, lay4, lay5, lay6]
 refine wpAnyH_done (by kernel_rfl) ?_ _
 refine NoPanic.normal ?_
 skip
 obtain ⟨c7, c8, c9, c10, c11, c12⟩ := hA.q6
 have c13 := hF.q1
 go_wp2
 go_ret
 exact ⟨rfl, hB⟩
set_option maxRecDepth 100000 in
set_option maxHeartbeats 8000000 in
theorem aright_c6 (lr b1 b2 eps wd f : Int) (apart : Bool) (w : World) (f0 : 0 ≤ f) (f1 : f ≤ 40) (h0 : 0 ≤ lr) (h1 : 0 < eps) (h2 : 0 ≤ b1 ∧ b1 < ((2 ^ f.toNat : Nat) : Int)) (h3 : 0 ≤ b2 ∧ b2 < ((2 ^ f.toNat : Nat) : Int)) (h4 : 0 ≤ wd) (h5 : wd ≤ ((2 ^ f.toNat : Nat) : Int)) :
   Calls Tryz.prog 82 #[.agg #[.int .i64 lr, .int .i64 b1, .int .i64 b2, .int .i64 eps, .int .i64 wd, .bool apart], .int .i64 f] w fun e w' => e = .returned (.bool true) ∧ Below w.heap.size w w' := by
 obtain ⟨k, rfl⟩ : ∃ k : Nat, f = (k : Int) := ⟨f.toNat, by omega⟩
 have hk : k ≤ 40 := by omega
 try simp only [Int.toNat_natCast] at *
 have d0 : decide ((k : Int) < 0) = false := decide_eq_false (by omega)
 have d1 : decide (40 < (k : Int)) = false := decide_eq_false (by omega)
 have hO := fun w => aone_any k w hk
 have hb := fun n X w hX => abeta_any n k X w hk hX
 have e0 : decide (0 ≤ lr) = true := decide_eq_true h0
 have e1 : decide (0 < eps) = true := decide_eq_true h1
 have hb2 := fun X w hX => hb b1 X w hX
 rw [show (decide (0 ≤ b1) && decide (b1 < ((2 ^ k : Nat) : Int))) = true by simp [h2.1]; simpa using h2.2] at hb2
 have hb3 := fun X w hX => hb b2 X w hX
 rw [show (decide (0 ≤ b2) && decide (b2 < ((2 ^ k : Nat) : Int))) = true by simp [h3.1]; simpa using h3.2] at hb3
 have e4 : decide (0 ≤ wd) = true := decide_eq_true h4
 have e5 : decide (wd ≤ ((2 ^ k : Nat) : Int)) = true := decide_eq_true h5
 generalize 2 ^ k = P at *
 clear hb h0 h1 h2 h3 h4 h5
 obtain ⟨g, hg⟩ : ∃ g, g = w.heap.size := ⟨_, rfl⟩
 obtain ⟨Y0, eY0, hA, bY0⟩ := box1 w 61 #[.int .i64 lr, .int .i64 b1, .int .i64 b2, .int .i64 eps, .int .i64 wd, .bool apart]
 have zY0 : Y0.heap.size = g + 1 := by rw [eY0, World.size_alloc, ← hg]
 rw [← hg] at hA
 have hB := bY0
 obtain ⟨Y1, eY1, hF, bY1⟩ := box1 Y0 3 #[.int .i64 k]
 have zY1 : Y1.heap.size = g + 1 + 1 := by rw [eY1, World.size_alloc, zY0]
 rw [zY0] at hF
 replace hA := hA.below bY1 hA.lt
 replace hB := hB.trans (bY1.mono hB.size)
 have hgw : w.heap.size ≤ g := by omega
 have EY := Lib.hid (And.intro hg (And.intro eY0 eY1))
 clear hg eY0 zY0 eY1 zY1
 obtain ⟨c0, c1, c2, c3, c4, c5⟩ := hA.q6
 have c6 := hF.q1
 go_enter Tryz.func82, Tryz.ntmps82
 go_upto_region 4 with fail
 rw [← EY.out.2.1, ← EY.out.2.2, ← EY.out.1]
 replace hB := hB.drew
 replace hA := hA.drew
 replace hF := hF.drew
 clear c0 c1 c2 c3 c4 c5 c6
 refine wp_region_noPanic ?_
 refine wp_region_held_drew (S := fun w' => w'.cell? ⟨g, 0, none⟩ = some (.int .i64 lr) ∧ w'.cell? ⟨g, 1, none⟩ = some (.int .i64 b1) ∧ w'.cell? ⟨g, 2, none⟩ = some (.int .i64 b2) ∧ w'.cell? ⟨g, 3, none⟩ = some (.int .i64 eps) ∧ w'.cell? ⟨g, 4, none⟩ = some (.int .i64 wd) ∧ w'.cell? ⟨g, 5, none⟩ = some (.bool apart) ∧ w'.cell? ⟨g + 1, 0, none⟩ = some (.int .i64 k)) (by kernel_rfl) ?_ (fun hHeld => ?_)
 · exact ⟨hA.cell 0, hA.cell 1, hA.cell 2, hA.cell 3, hA.cell 4, hA.cell 5, hF.cell 0⟩
 obtain ⟨wd4_1, hwd⟩ : ∃ q, q = Y1.drew := ⟨_, rfl⟩
 rw [← hwd] at hB hA hF hHeld ⊢
 clear hwd
 refine tkH 0 rfl (v := ?v191) ?h191 ?r191
 case h191 => intro w hSw; (try dsimp only at hSw); go_simp; try (with_reducible rfl)
 refine tkH 1 rfl (v := ?v192) ?h192 ?r192
 case h192 => intro w hSw; (try dsimp only at hSw); go_simp; try (with_reducible rfl)
 refine tkH 2 rfl (v := ?v193) ?h193 ?r193
 case h193 => intro w hSw; (try dsimp only at hSw); go_simp; try (with_reducible rfl)
 refine tkH 3 rfl (v := ?v194) ?h194 ?r194
 case h194 => intro w hSw; (try dsimp only at hSw); go_simp; try (with_reducible rfl)
 refine tkH 4 rfl (v := ?v195) ?h195 ?r195
 case h195 => intro w hSw; (try dsimp only at hSw); go_simp; try (with_reducible rfl)
 refine tkH 5 rfl (v := ?v196) ?h196 ?r196
 case h196 => intro w hSw; (try dsimp only at hSw); go_simp; try (with_reducible rfl)
 refine tkH 6 rfl (v := ?v197) ?h197 ?r197
 case h197 => intro w hSw; (try dsimp only at hSw); go_simp; try (with_reducible rfl)
 refine tkH 7 rfl (v := ?v198) ?h198 ?r198
 case h198 => intro w hSw; (try dsimp only at hSw); go_simp; try (with_reducible rfl)
 refine tkH 8 rfl (v := ?v199) ?h199 ?r199
 case h199 => intro w hSw; (try dsimp only at hSw); go_simp; try (with_reducible rfl)
 refine tkH 9 rfl (v := ?v200) ?h200 ?r200
 case h200 => intro w hSw; (try dsimp only at hSw); go_simp; try (with_reducible rfl)
 refine tkH 10 rfl (v := ?v201) ?h201 ?r201
 case h201 => intro w hSw; (try dsimp only at hSw); go_simp; try (with_reducible rfl)
 refine tkH 11 rfl (v := ?v202) ?h202 ?r202
 case h202 => intro w hSw; (try dsimp only at hSw); go_simp; try (with_reducible rfl)
 try simp only [Act.put, lay1, lay2, lay3, lay4, lay5, lay6]
 refine rd1 12 rfl fun K hK => ?_
 go_simp
 refine (hb2 _ _ hF).mono ?_
 rintro e u4_1 ⟨rfl, rfl⟩
 go_wp2_with fail
 refine hK.out _ _ ?_ (fun hHeld => ?_)
 · exact ⟨hA.cell 0, hA.cell 1, hA.cell 2, hA.cell 3, hA.cell 4, hA.cell 5, hF.cell 0⟩
 clear hK K
 refine tkH 13 rfl (v := ?v203) ?h203 ?r203
 case h203 => intro w hSw; (try dsimp only at hSw); go_simp; try (with_reducible rfl)
 refine tkH 14 rfl (v := ?v204) ?h204 ?r204
 case h204 => intro w hSw; (try dsimp only at hSw); go_simp; try (with_reducible rfl)
 refine tkH 15 rfl (v := ?v205) ?h205 ?r205
 case h205 => intro w hSw; (try dsimp only at hSw); go_simp; try (with_reducible rfl)
 refine tkH 16 rfl (v := ?v206) ?h206 ?r206
 case h206 => intro w hSw; (try dsimp only at hSw); go_simp; try (with_reducible rfl)
 refine tkH 17 rfl (v := ?v207) ?h207 ?r207
 case h207 => intro w hSw; (try dsimp only at hSw); go_simp; try (with_reducible rfl)
 try simp only [Act.put, lay1, lay2, lay3, lay4, lay5, lay6]
 refine rd1 18 rfl fun K hK => ?_
 go_simp
 refine (hb3 _ _ hF).mono ?_
 rintro e u4_2 ⟨rfl, rfl⟩
 go_wp2_with fail
 refine hK.out _ _ ?_ (fun hHeld => ?_)
 · exact ⟨hA.cell 0, hA.cell 1, hA.cell 2, hA.cell 3, hA.cell 4, hA.cell 5, hF.cell 0⟩
 clear hK K
 refine tkH 19 rfl (v := ?v208) ?h208 ?r208
 case h208 => intro w hSw; (try dsimp only at hSw); go_simp; try (with_reducible rfl)
 refine tkH 20 rfl (v := ?v209) ?h209 ?r209
 case h209 => intro w hSw; (try dsimp only at hSw); go_simp; try (with_reducible rfl)
 refine tkH 21 rfl (v := ?v210) ?h210 ?r210
 case h210 => intro w hSw; (try dsimp only at hSw); go_simp; try (with_reducible rfl)
 refine tkH 22 rfl (v := ?v211) ?h211 ?r211
 case h211 => intro w hSw; (try dsimp only at hSw); go_simp; try (with_reducible rfl)
 refine tkH 23 rfl (v := ?v212) ?h212 ?r212
 case h212 => intro w hSw; (try dsimp only at hSw); go_simp; try (with_reducible rfl)
 refine tkH 24 rfl (v := ?v213) ?h213 ?r213
 case h213 => intro w hSw; (try dsimp only at hSw); go_simp; try (with_reducible rfl)
 refine tkH 25 rfl (v := ?v214) ?h214 ?r214
 case h214 => intro w hSw; (try dsimp only at hSw); go_simp; try (with_reducible rfl)
 refine tkH 26 rfl (v := ?v215) ?h215 ?r215
 case h215 => intro w hSw; (try dsimp only at hSw); go_simp; try (with_reducible rfl)
 refine tkH 27 rfl (v := ?v216) ?h216 ?r216
 case h216 => intro w hSw; (try dsimp only at hSw); go_simp; try (with_reducible rfl)
 refine tkH 28 rfl (v := ?v217) ?h217 ?r217
 case h217 => intro w hSw; (try dsimp only at hSw); go_simp; try (with_reducible rfl)
 try simp only [Act.put, lay1, lay2, lay3, lay4, lay5, lay6]
 refine rd1 29 rfl fun K hK => ?_
 go_simp
 refine (hO _).mono ?_
 rintro e u4_3 ⟨rfl, rfl⟩
 go_wp2_with fail
 refine hK.out _ _ ?_ (fun hHeld => ?_)
 · exact ⟨hA.cell 0, hA.cell 1, hA.cell 2, hA.cell 3, hA.cell 4, hA.cell 5, hF.cell 0⟩
 clear hK K
 refine tkH 30 rfl (v := ?v218) ?h218 ?r218
 case h218 => intro w hSw; (try dsimp only at hSw); go_simp; try (with_reducible rfl)
 refine tkH 31 rfl (v := ?v219) ?h219 ?r219
 case h219 => intro w hSw; (try dsimp only at hSw); go_simp; try (with_reducible rfl)
 refine tkH 32 rfl (v := ?v220) ?h220 ?r220
 case h220 => intro w hSw; (try dsimp only at hSw); go_simp; try (with_reducible rfl)
 try simp only [Act.put, lay1, lay2, lay3, lay4, lay5, lay6]
 try dsimp only
 try simp only [Act.put, lay1, lay2, lay3, lay4, lay5, lay6]
 refine wpAnyH_done (by kernel_rfl) ?_ _
 refine NoPanic.normal ?_
 skip
 obtain ⟨c7, c8, c9, c10, c11, c12⟩ := hA.q6
 have c13 := hF.q1
 go_wp2
 go_ret
 exact ⟨rfl, hB⟩
theorem aright_any (lr b1 b2 eps wd f : Int) (apart : Bool) (w : World) :
   Calls Tryz.prog 82 #[.agg #[.int .i64 lr, .int .i64 b1, .int .i64 b2, .int .i64 eps, .int .i64 wd, .bool apart], .int .i64 f] w fun e w' => e = .returned (.bool (rightA lr b1 b2 eps wd f)) ∧ Below w.heap.size w w' := by
 have no : ¬ (0 ≤ f ∧ f ≤ 40 ∧ 0 ≤ lr ∧ 0 < eps ∧ (0 ≤ b1 ∧ b1 < ((2 ^ f.toNat : Nat) : Int)) ∧ (0 ≤ b2 ∧ b2 < ((2 ^ f.toNat : Nat) : Int)) ∧ 0 ≤ wd ∧ wd ≤ ((2 ^ f.toNat : Nat) : Int)) → rightA lr b1 b2 eps wd f = false := fun h => decide_eq_false h
 by_cases f0 : f < 0
 · rw [no (by omega)]; exact aright_f0 lr b1 b2 eps wd f apart w f0
 by_cases f1 : 40 < f
 · rw [no (by omega)]; exact aright_f1 lr b1 b2 eps wd f apart w f0 f1
 by_cases h0 : 0 ≤ lr; rotate_left
 · rw [no (fun h => h0 (h.2.2.1))]; exact aright_c0 lr b1 b2 eps wd f apart w (by omega) (by omega) h0
 by_cases h1 : 0 < eps; rotate_left
 · rw [no (fun h => h1 (h.2.2.2.1))]; exact aright_c1 lr b1 b2 eps wd f apart w (by omega) (by omega) h0 h1
 by_cases h2 : 0 ≤ b1 ∧ b1 < ((2 ^ f.toNat : Nat) : Int); rotate_left
 · rw [no (fun h => h2 (h.2.2.2.2.1))]; exact aright_c2 lr b1 b2 eps wd f apart w (by omega) (by omega) h0 h1 h2
 by_cases h3 : 0 ≤ b2 ∧ b2 < ((2 ^ f.toNat : Nat) : Int); rotate_left
 · rw [no (fun h => h3 (h.2.2.2.2.2.1))]; exact aright_c3 lr b1 b2 eps wd f apart w (by omega) (by omega) h0 h1 h2 h3
 by_cases h4 : 0 ≤ wd; rotate_left
 · rw [no (fun h => h4 (h.2.2.2.2.2.2.1))]; exact aright_c4 lr b1 b2 eps wd f apart w (by omega) (by omega) h0 h1 h2 h3 h4
 by_cases h5 : wd ≤ ((2 ^ f.toNat : Nat) : Int); rotate_left
 · rw [no (fun h => h5 (h.2.2.2.2.2.2.2))]; exact aright_c5 lr b1 b2 eps wd f apart w (by omega) (by omega) h0 h1 h2 h3 h4 h5
 rw [show rightA lr b1 b2 eps wd f = true from decide_eq_true ⟨by omega, by omega, h0, h1, h2, h3, h4, h5⟩]
 exact aright_c6 lr b1 b2 eps wd f apart w (by omega) (by omega) h0 h1 h2 h3 h4 h5
def powQ (x : Rat) : Nat → Rat
 | 0 => 1
 | n + 1 => powQ x n * x
theorem sz_powQ {x : Rat} (h : BQ x 1) : ∀ n, BQ (powQ x n) (2 * n + 1)
 | 0 => BQ.int (n := 1) (by unfold W64; omega)
 | n + 1 => ((sz_powQ h n).mul h).more (by omega)
set_option maxRecDepth 100000 in
set_option maxHeartbeats 8000000 in
theorem plack_any (beta : Int) (k t : Nat) (w : World) (hk : k ≤ 40) (hb : In64 beta) (ht : t ≤ 100) :
   Calls Tryz.prog 84 #[.int .i64 beta, .int .i64 k, .int .i64 t] w fun e w' => ∃ v', e = .returned v' ∧ IsS w' v' (1 - powQ (mkRat beta (2 ^ k)) t) (1 - powQ (mkRat beta (2 ^ k)) t) ∧ Below w.heap.size w w' := by
 have hN := fun w => pnum_any beta k w hk hb
 have hO := fun w => pof_any 1 (by omega) (by omega) w
 rw [show ((1 : Int) : Rat) = 1 from rfl] at hO
 have sx : BQ (mkRat beta (2 ^ k)) 1 := BQ.mk (Sz.u64 (by have := hb.1; have := hb.2; unfold W64; omega)) ((Sz.two_pow k).more (by omega)) (by omega)
 have b1 : BQ (1 : Rat) 1 := BQ.int (n := 1) (by unfold W64; omega)
 have sp := sz_powQ sx
 have hIv := fun v r w h => pivof_any v r w h
 generalize mkRat beta (2 ^ k) = x at *
 clear hb
 obtain ⟨g, hg⟩ : ∃ g, g = w.heap.size := ⟨_, rfl⟩
 obtain ⟨Y0, eY0, hR, bY0⟩ := box1 w 46 #[.bool false, .slice none 0 0, .slice none 0 0, .bool false, .slice none 0 0, .slice none 0 0]
 have zY0 : Y0.heap.size = g + 1 := by rw [eY0, World.size_alloc, ← hg]
 rw [← hg] at hR
 have hB := bY0
 have hgw : w.heap.size ≤ g := by omega
 have EY := Lib.hid (And.intro hg eY0)
 clear hg eY0 zY0
 obtain ⟨c0, c1, c2, c3, c4, c5⟩ := hR.q6
 go_enter Tryz.func84, Tryz.ntmps84
 go_wp2_with fail
 rw [← EY.out.2, ← EY.out.1]
 refine (hN _).mono ?_
 rintro e w2 ⟨v7, rfl, q7, b2⟩
 replace hR := hR.below b2 hR.lt
 replace hB := hB.trans (b2.mono hB.size)
 clear c0 c1 c2 c3 c4 c5
 obtain ⟨c6, c7, c8, c9, c10, c11⟩ := hR.q6
 obtain ⟨s7, A7, L7, C7, D7, M7, E7, rfl, q7⟩ := q7.opn
 obtain ⟨V4, eV, h7, bV4⟩ := box1 w2 32 #[.bool s7, .slice A7 L7 C7, .slice D7 M7 E7]
 obtain ⟨X4, eX⟩ : ∃ X, X = w2.heap.size := ⟨_, rfl⟩
 rw [← eX] at h7
 have lX4 : w.heap.size ≤ X4 := by rw [eX]; exact hB.size
 have dX4_hR : g ≠ X4 := by have := hR.lt; omega
 have EV4 := Lib.hid (And.intro eV eX)
 clear eV eX
 go_upto_region 2 with fail
 rw [← EV4.out.1, ← EV4.out.2]
 replace hR := hR.below bV4 hR.lt
 replace q7 := q7.below bV4
 replace hB := hB.trans (bV4.mono hB.size)
 clear c6 c7 c8 c9 c10 c11
 obtain ⟨c12, c13, c14, c15, c16, c17⟩ := hR.q6
 obtain ⟨c18, c19, c20⟩ := h7.q3
 go_wp2_with fail
 refine (hO _).mono ?_
 rintro e w6 ⟨v9, rfl, q9, b6⟩
 replace hR := hR.below b6 hR.lt
 replace q7 := q7.below b6
 replace h7 := h7.below b6 h7.lt
 replace hB := hB.trans (b6.mono hB.size)
 clear c12 c13 c14 c15 c16 c17 c18 c19 c20
 obtain ⟨c21, c22, c23, c24, c25, c26⟩ := hR.q6
 obtain ⟨c27, c28, c29⟩ := h7.q3
 obtain ⟨s9, A9, L9, C9, D9, M9, E9, rfl, q9⟩ := q9.opn
 obtain ⟨V8, eV, h9, bV8⟩ := box1 w6 32 #[.bool s9, .slice A9 L9 C9, .slice D9 M9 E9]
 obtain ⟨X8, eX⟩ : ∃ X, X = w6.heap.size := ⟨_, rfl⟩
 rw [← eX] at h9
 have lX8 : w.heap.size ≤ X8 := by rw [eX]; exact hB.size
 have dX8_hR : g ≠ X8 := by have := hR.lt; omega
 have dX8_h7 : X4 ≠ X8 := by have := h7.lt; omega
 have EV8 := Lib.hid (And.intro eV eX)
 clear eV eX
 go_upto_region 3 with fail
 rw [← EV8.out.1, ← EV8.out.2]
 replace hR := hR.below bV8 hR.lt
 replace q7 := q7.below bV8
 replace h7 := h7.below bV8 h7.lt
 replace q9 := q9.below bV8
 replace hB := hB.trans (bV8.mono hB.size)
 clear c21 c22 c23 c24 c25 c26 c27 c28 c29
 obtain ⟨c30, c31, c32, c33, c34, c35⟩ := hR.q6
 obtain ⟨c36, c37, c38⟩ := h7.q3
 obtain ⟨c39, c40, c41⟩ := h9.q3
 go_wp2_with fail
 go_loopw [18] (fun iV wr => ∃ (i : Nat) (s9 : Bool) (A9 D9 : Option Addr) (L9 C9 M9 E9 : Nat), iV = .int .i64 i ∧ i ≤ t ∧ Blk wr g 46 #[.bool false, .slice none 0 0, .slice none 0 0, .bool false, .slice none 0 0, .slice none 0 0] ∧ Blk wr X4 32 #[.bool s7, .slice A7 L7 C7, .slice D7 M7 E7] ∧ IsQ wr (.agg #[.bool s7, .slice A7 L7 C7, .slice D7 M7 E7]) x ∧ Blk wr X8 32 #[.bool s9, .slice A9 L9 C9, .slice D9 M9 E9] ∧ IsQ wr (.agg #[.bool s9, .slice A9 L9 C9, .slice D9 M9 E9]) (powQ x i) ∧ Below w.heap.size w wr) (fun iV _ => t - (intOf iV).toNat)
 case atStart => exact ⟨0, _, _, _, _, _, _, _, rfl, Nat.zero_le _, hR, h7, q7, h9, q9, hB⟩
 case round =>
   clear hR h7 q7 h9 q9 hB
   obtain ⟨i, s9, A9, D9, L9, C9, M9, E9, rfl, hi, hR, h7, q7, h9, q9, hB⟩ := hrel
   by_cases hlt : i < t
   · clear c30 c31 c32 c33 c34 c35 c36 c37 c38 c39 c40 c41
     obtain ⟨c42, c43, c44, c45, c46, c47⟩ := hR.q6
     obtain ⟨c48, c49, c50⟩ := h7.q3
     obtain ⟨c51, c52, c53⟩ := h9.q3
     have i1 : (i : Int) < (t : Int) := by omega
     have hM := fun u v w h h' => pmul_any u v (powQ x i) x w h h' ((sp i).more (by omega)) (sx.more (by omega))
     rw [show powQ x i * x = powQ x (i + 1) from rfl] at hM
     go_wp2_with fail
     refine (hM _ _ _ q9 q7).mono ?_
     rintro e w11 ⟨v10, rfl, q10, b11⟩
     replace hR := hR.below b11 hR.lt
     replace q7 := q7.below b11
     replace h7 := h7.below b11 h7.lt
     replace q9 := q9.below b11
     replace h9 := h9.below b11 h9.lt
     replace hB := hB.trans (b11.mono hB.size)
     clear c42 c43 c44 c45 c46 c47 c48 c49 c50 c51 c52 c53
     obtain ⟨c54, c55, c56, c57, c58, c59⟩ := hR.q6
     obtain ⟨c60, c61, c62⟩ := h7.q3
     obtain ⟨c63, c64, c65⟩ := h9.q3
     obtain ⟨s10, A10, L10, C10, D10, M10, E10, rfl, q10⟩ := q10.opn
     obtain ⟨W8, eW, f1, f2, f3, f4⟩ := fill3 h9 (.bool s10) (.slice A10 L10 C10) (.slice D10 M10 E10) (by simp [noU])
     have xf := h9.frozen
     go_upto_region 6 with fail
     rw [← eW]
     replace hR := f3 _ _ _ hR (by omega)
     replace h7 := f3 _ _ _ h7 (by omega)
     replace q7 := q7.filled f2
     replace q10 := q10.filled f2
     replace hB := f4 _ _ (by omega) hB
     clear eW f2 f3 f4 xf h9 q9
     clear c54 c55 c56 c57 c58 c59 c60 c61 c62 c63 c64 c65
     go_wp2
     exact ⟨⟨i + 1, _, _, _, _, _, _, _, by go_num, by omega, hR, h7, q7, f1, q10, hB⟩, by simp [intOf]; omega⟩
   · obtain rfl : i = t := by omega
     clear c30 c31 c32 c33 c34 c35 c36 c37 c38 c39 c40 c41
     obtain ⟨c42, c43, c44, c45, c46, c47⟩ := hR.q6
     obtain ⟨c48, c49, c50⟩ := h7.q3
     obtain ⟨c51, c52, c53⟩ := h9.q3
     have hS := fun u v w h h' => prsub_any u v 1 (powQ x i) w h h' (b1.more (by omega)) ((sp i).more (by omega))
     generalize hrs : (1 : Rat) - powQ x i = rs at *
     have HRS := Lib.hid hrs
     clear hrs
     generalize hrp : powQ x i = rp at *
     have HRP := Lib.hid hrp
     clear hrp
     go_upto_region 7 with fail
     replace hB := hB.drew
     replace hR := hR.drew
     replace q9 := q9.below (bdrew _)
     replace h9 := h9.drew
     clear c42 c43 c44 c45 c46 c47 c48 c49 c50 c51 c52 c53
     refine wp_region_noPanic ?_
     refine wp_region_held_drew (S := fun w' => w'.cell? ⟨X8, 0, none⟩ = some (.bool s9) ∧ w'.cell? ⟨X8, 1, none⟩ = some (.slice A9 L9 C9) ∧ w'.cell? ⟨X8, 2, none⟩ = some (.slice D9 M9 E9)) (by kernel_rfl) ?_ (fun hHeld => ?_)
     · exact ⟨h9.cell 0, h9.cell 1, h9.cell 2⟩
     obtain ⟨wd7_1, hwd⟩ : ∃ q, q = wr.drew := ⟨_, rfl⟩
     rw [← hwd] at hB hR q9 h9 hHeld ⊢
     clear hwd
     refine tkH 1 rfl (v := ?v221) ?h221 ?r221
     case h221 => intro w hSw; (try dsimp only at hSw); go_simp; try (with_reducible rfl)
     try simp only [Act.put, lay1, lay2, lay3, lay4, lay5, lay6]
     refine rd1 0 rfl fun K hK => ?_
     go_simp
     refine (hO _).mono ?_
     rintro e u7_1 ⟨v11, rfl, q11, b7_1⟩
     replace hR := hR.below b7_1 hR.lt
     replace q9 := q9.below b7_1
     replace h9 := h9.below b7_1 h9.lt
     replace hB := hB.trans (b7_1.mono hB.size)
     go_wp2_with fail
     refine hK.out _ _ ?_ (fun hHeld => ?_)
     · exact ⟨h9.cell 0, h9.cell 1, h9.cell 2⟩
     clear hK K
     try simp only [Act.put, lay1, lay2, lay3, lay4, lay5, lay6]
     refine rd1 2 rfl fun K hK => ?_
     go_simp
     refine (hS _ _ _ q11 q9).mono ?_
     rintro e u7_2 ⟨v12, rfl, q12, b7_2⟩
     replace hR := hR.below b7_2 hR.lt
     replace q9 := q9.below b7_2
     replace h9 := h9.below b7_2 h9.lt
     replace q11 := q11.below b7_2
     replace hB := hB.trans (b7_2.mono hB.size)
     go_wp2_with fail
     refine hK.out _ _ ?_ (fun hHeld => ?_)
     · exact ⟨h9.cell 0, h9.cell 1, h9.cell 2⟩
     clear hK K
     try simp only [Act.put, lay1, lay2, lay3, lay4, lay5, lay6]
     refine rd1 3 rfl fun K hK => ?_
     go_simp
     refine (hIv _ _ _ q12).mono ?_
     rintro e u7_3 ⟨v13, rfl, h13, b7_3⟩
     replace hR := hR.below b7_3 hR.lt
     replace q9 := q9.below b7_3
     replace h9 := h9.below b7_3 h9.lt
     replace q11 := q11.below b7_3
     replace q12 := q12.below b7_3
     replace hB := hB.trans (b7_3.mono hB.size)
     obtain ⟨s13, A13, L13, C13, D13, M13, E13, s14, A14, L14, C14, D14, M14, E14, rfl, q13, q14⟩ := h13.opn
     go_wp2_with fail
     refine hK.out _ _ ?_ (fun hHeld => ?_)
     · exact ⟨h9.cell 0, h9.cell 1, h9.cell 2⟩
     clear hK K
     try simp only [Act.put, lay1, lay2, lay3, lay4, lay5, lay6]
     refine rd1 4 rfl fun K hK => ?_
     obtain ⟨u7_4, eu, hR', kz, kb, kB⟩ := fill6 hR (.bool s13) (.slice A13 L13 C13) (.slice D13 M13 E13) (.bool s14) (.slice A14 L14 C14) (.slice D14 M14 E14) (by simp [noU])
     have x0 : World.cell? _ ⟨g, 0, none⟩ = some (.bool false) := hR.cell 0
     have x1 : World.cell? _ ⟨g, 1, none⟩ = some (.slice none 0 0) := hR.cell 1
     have x2 : World.cell? _ ⟨g, 2, none⟩ = some (.slice none 0 0) := hR.cell 2
     have x3 : World.cell? _ ⟨g, 3, none⟩ = some (.bool false) := hR.cell 3
     have x4 : World.cell? _ ⟨g, 4, none⟩ = some (.slice none 0 0) := hR.cell 4
     have x5 : World.cell? _ ⟨g, 5, none⟩ = some (.slice none 0 0) := hR.cell 5
     have xf := hR.frozen
     go_simp
     rw [← eu]
     replace q9 := q9.filled kz
     replace h9 := kb _ _ _ h9 (by omega)
     replace q11 := q11.filled kz
     replace q12 := q12.filled kz
     replace q13 := q13.filled kz
     replace q14 := q14.filled kz
     replace hB := kB _ _ (by omega) hB
     replace hR := hR'
     clear hR' kz kb kB eu xf x0 x1 x2 x3 x4 x5
     refine hK.out _ _ ?_ (fun hHeld => ?_)
     · exact ⟨h9.cell 0, h9.cell 1, h9.cell 2⟩
     clear hK K
     try simp only [Act.put, lay1, lay2, lay3, lay4, lay5, lay6]
     try dsimp only
     try simp only [Act.put, lay1, lay2, lay3, lay4, lay5, lay6]
     refine wpAnyH_done (by kernel_rfl) ?_ _
     refine NoPanic.normal ?_
     skip
     obtain ⟨c54, c55, c56, c57, c58, c59⟩ := hR.q6
     obtain ⟨c60, c61, c62⟩ := h9.q3
     go_wp2_with fail
     exact bodyPost_ret (v := .agg #[.bool s13, .slice A13 L13 C13, .slice D13 M13 E13, .bool s14, .slice A14 L14 C14, .slice D14 M14 E14]) (by simp [results, Tryz.results84, go_sem, c54, c55, c56, c57, c58, c59]) rfl ⟨_, rfl, ⟨_, _, _, _, _, _, rfl, by rw [HRP.out, HRS.out]; exact q13, by rw [HRP.out, HRS.out]; exact q14⟩, hB⟩
theorem sidedZ {w : World} {s : Bool} {p q : Value} {b : Rat} (h : IsQ w (.agg #[.bool s, p, q]) b) : IsZ w (.agg #[.bool s, q]) (sided (decide (b.num < 0)) b.den) := by
 obtain ⟨e, _, hq⟩ := h.parts
 have hd := b.den_pos
 refine ⟨q, ?_, ?_⟩
 · rw [e]
   by_cases hn : b.num < 0
   · rw [decide_eq_true hn]
     have : decide (sided true b.den < 0) = true := decide_eq_true (by simp [sided]; omega)
     rw [this]
   · rw [decide_eq_false hn]
     have : decide (sided false b.den < 0) = false := decide_eq_false (by simp [sided])
     rw [this]
 · rw [sided_abs]; exact hq
set_option maxRecDepth 100000 in
set_option maxHeartbeats 8000000 in
theorem prdiv_any (va vb : Value) (a b : Rat) (w : World) (ha : IsQ w va a) (hb : IsQ w vb b) (sa : BQ a 10000) (sb : BQ b 10000) (h0 : b.num ≠ 0) :
   Calls Tryz.prog 145 #[va, vb] w fun e w' => ∃ v', e = .returned (.tuple #[v', .int .i64 0]) ∧ IsQ w' v' (divQ a b) ∧ Below w.heap.size w w' := by
 obtain ⟨s1, A1, L1, C1, D1, M1, E1, rfl, q1⟩ := ha.opn
 obtain ⟨s2, A2, L2, C2, D2, M2, E2, rfl, q2⟩ := hb.opn
 have hZ := fun w h1 h2 => pzmul_any (.agg #[.bool s1, .slice A1 L1 C1]) (.agg #[.bool s2, .slice D2 M2 E2]) a.num (sided (decide (b.num < 0)) b.den) w h1 h2 (sa.1.more (by omega)) (by rw [sided_abs]; exact sb.2.more (by omega))
 have hN := fun w h1 h2 => mul_any (.slice D1 M1 E1) (.slice A2 L2 C2) a.den b.num.natAbs w h1 h2 (sa.2.fin (by omega)) (sb.1.fin (by omega))
 have hM := fun u v w h1 h2 => prmake_any u v (a.num * sided (decide (b.num < 0)) b.den) (a.den * b.num.natAbs) w h1 h2 ((sa.1.imul (b := sided (decide (b.num < 0)) b.den) (by rw [sided_abs]; exact sb.2)).more (by omega)) ((sa.2.mul sb.1).more (by omega)) (Nat.mul_pos a.den_pos (by omega))
 rw [show mkRat (a.num * sided (decide (b.num < 0)) b.den) (a.den * b.num.natAbs) = divQ a b from rfl] at hM
 generalize divQ a b = r at *
 generalize a.num * sided (decide (b.num < 0)) b.den = p at *
 generalize a.den * b.num.natAbs = q at *
 clear ha hb sa sb h0
 obtain ⟨g, hg⟩ : ∃ g, g = w.heap.size := ⟨_, rfl⟩
 obtain ⟨Y0, eY0, hA, bY0⟩ := box1 w 32 #[.bool s1, .slice A1 L1 C1, .slice D1 M1 E1]
 have zY0 : Y0.heap.size = g + 1 := by rw [eY0, World.size_alloc, ← hg]
 rw [← hg] at hA
 replace q1 := q1.below bY0
 replace q2 := q2.below bY0
 have hB := bY0
 obtain ⟨Y1, eY1, hC, bY1⟩ := box1 Y0 32 #[.bool s2, .slice A2 L2 C2, .slice D2 M2 E2]
 have zY1 : Y1.heap.size = g + 1 + 1 := by rw [eY1, World.size_alloc, zY0]
 rw [zY0] at hC
 replace hA := hA.below bY1 hA.lt
 replace q1 := q1.below bY1
 replace q2 := q2.below bY1
 replace hB := hB.trans (bY1.mono hB.size)
 obtain ⟨Y2, eY2, hR, bY2⟩ := box1 Y1 32 #[.bool false, .slice none 0 0, .slice none 0 0]
 have zY2 : Y2.heap.size = g + 1 + 1 + 1 := by rw [eY2, World.size_alloc, zY1]
 rw [zY1] at hR
 replace hA := hA.below bY2 hA.lt
 replace hC := hC.below bY2 hC.lt
 replace q1 := q1.below bY2
 replace q2 := q2.below bY2
 replace hB := hB.trans (bY2.mono hB.size)
 have hgw : w.heap.size ≤ g := by omega
 have EY := Lib.hid (And.intro hg (And.intro eY0 (And.intro eY1 eY2)))
 clear hg eY0 zY0 eY1 zY1 eY2 zY2
 obtain ⟨c0, c1, c2⟩ := hA.q3
 obtain ⟨c3, c4, c5⟩ := hC.q3
 obtain ⟨c6, c7, c8⟩ := hR.q3
 go_enter Tryz.func145, Tryz.ntmps145
 have z1 := q1.parts.2.1
 have n1 := q1.parts.2.2
 have n2 := q2.parts.2.1.parts.2
 have z2 := sidedZ q2
 go_upto_region 1 with fail
 rw [← EY.out.2.1, ← EY.out.2.2.1, ← EY.out.2.2.2, ← EY.out.1]
 replace hB := hB.drew
 replace q1 := q1.below (bdrew _)
 replace q2 := q2.below (bdrew _)
 replace hA := hA.drew
 replace hC := hC.drew
 replace hR := hR.drew
 replace z1 := z1.below (bdrew _)
 replace n1 := n1.below (bdrew _)
 replace n2 := n2.below (bdrew _)
 replace z2 := z2.below (bdrew _)
 clear c0 c1 c2 c3 c4 c5 c6 c7 c8
 refine wp_region_noPanic ?_
 refine wp_region_held_drew (S := fun w' => w'.cell? ⟨g, 0, none⟩ = some (.bool s1) ∧ w'.cell? ⟨g, 1, none⟩ = some (.slice A1 L1 C1) ∧ w'.cell? ⟨g, 2, none⟩ = some (.slice D1 M1 E1) ∧ w'.cell? ⟨g + 1, 0, none⟩ = some (.bool s2) ∧ w'.cell? ⟨g + 1, 1, none⟩ = some (.slice A2 L2 C2) ∧ w'.cell? ⟨g + 1, 2, none⟩ = some (.slice D2 M2 E2)) (by kernel_rfl) ?_ (fun hHeld => ?_)
 · exact ⟨hA.cell 0, hA.cell 1, hA.cell 2, hC.cell 0, hC.cell 1, hC.cell 2⟩
 obtain ⟨wd1_1, hwd⟩ : ∃ q, q = Y2.drew := ⟨_, rfl⟩
 rw [← hwd] at hB q1 q2 hA hC hR z1 n1 n2 z2 hHeld ⊢
 clear hwd
 refine tkH 0 rfl (v := ?v1) ?h1 ?r1
 case h1 => intro w hSw; (try dsimp only at hSw); go_simp; try (with_reducible rfl)
 refine tkH 1 rfl (v := ?v2) ?h2 ?r2
 case h2 => intro w hSw; (try dsimp only at hSw); go_simp; try (with_reducible rfl)
 refine tkH 2 rfl (v := ?v3) ?h3 ?r3
 case h3 => intro w hSw; (try dsimp only at hSw); go_simp; try (with_reducible rfl)
 refine tkH 3 rfl (v := ?v4) ?h4 ?r4
 case h4 => intro w hSw; (try dsimp only at hSw); go_simp; try (with_reducible rfl)
 refine tkH 4 rfl (v := ?v5) ?h5 ?r5
 case h5 => intro w hSw; (try dsimp only at hSw); go_simp; try (with_reducible rfl)
 refine tkH 5 rfl (v := ?v6) ?h6 ?r6
 case h6 => intro w hSw; (try dsimp only at hSw); go_simp; try (with_reducible rfl)
 refine tkH 6 rfl (v := ?v7) ?h7 ?r7
 case h7 => intro w hSw; (try dsimp only at hSw); go_simp; try (with_reducible rfl)
 refine tkH 7 rfl (v := ?v8) ?h8 ?r8
 case h8 => intro w hSw; (try dsimp only at hSw); go_simp; try (with_reducible rfl)
 refine tkH 9 rfl (v := ?v9) ?h9 ?r9
 case h9 => intro w hSw; (try dsimp only at hSw); go_simp; try (with_reducible rfl)
 refine tkH 10 rfl (v := ?v10) ?h10 ?r10
 case h10 => intro w hSw; (try dsimp only at hSw); go_simp; try (with_reducible rfl)
 refine tkH 11 rfl (v := ?v11) ?h11 ?r11
 case h11 => intro w hSw; (try dsimp only at hSw); go_simp; try (with_reducible rfl)
 refine tkH 12 rfl (v := ?v12) ?h12 ?r12
 case h12 => intro w hSw; (try dsimp only at hSw); go_simp; try (with_reducible rfl)
 refine tkH 13 rfl (v := ?v13) ?h13 ?r13
 case h13 => intro w hSw; (try dsimp only at hSw); go_simp; try (with_reducible rfl)
 try simp only [Act.put, lay1, lay2, lay3, lay4, lay5, lay6]
 refine rd1 8 rfl fun K hK => ?_
 go_simp
 refine (hZ _ z1 z2).mono ?_
 rintro e u1_1 ⟨v3, rfl, z3, b1_1⟩
 replace q1 := q1.below b1_1
 replace q2 := q2.below b1_1
 replace hA := hA.below b1_1 hA.lt
 replace hC := hC.below b1_1 hC.lt
 replace hR := hR.below b1_1 hR.lt
 replace z1 := z1.below b1_1
 replace n1 := n1.below b1_1
 replace n2 := n2.below b1_1
 replace z2 := z2.below b1_1
 replace hB := hB.trans (b1_1.mono hB.size)
 go_wp2_with fail
 refine hK.out _ _ ?_ (fun hHeld => ?_)
 · exact ⟨hA.cell 0, hA.cell 1, hA.cell 2, hC.cell 0, hC.cell 1, hC.cell 2⟩
 clear hK K
 try simp only [Act.put, lay1, lay2, lay3, lay4, lay5, lay6]
 refine rd1 14 rfl fun K hK => ?_
 go_simp
 refine (hN _ n1 n2).mono ?_
 rintro e u1_2 ⟨v4, rfl, n4, b1_2⟩
 replace q1 := q1.below b1_2
 replace q2 := q2.below b1_2
 replace hA := hA.below b1_2 hA.lt
 replace hC := hC.below b1_2 hC.lt
 replace hR := hR.below b1_2 hR.lt
 replace z1 := z1.below b1_2
 replace n1 := n1.below b1_2
 replace n2 := n2.below b1_2
 replace z2 := z2.below b1_2
 replace z3 := z3.below b1_2
 replace hB := hB.trans (b1_2.mono hB.size)
 go_wp2_with fail
 refine hK.out _ _ ?_ (fun hHeld => ?_)
 · exact ⟨hA.cell 0, hA.cell 1, hA.cell 2, hC.cell 0, hC.cell 1, hC.cell 2⟩
 clear hK K
 try simp only [Act.put, lay1, lay2, lay3, lay4, lay5, lay6]
 refine rd1 15 rfl fun K hK => ?_
 go_simp
 refine (hM _ _ _ z3 n4).mono ?_
 rintro e u1_3 ⟨v5, rfl, q5, b1_3⟩
 replace q1 := q1.below b1_3
 replace q2 := q2.below b1_3
 replace hA := hA.below b1_3 hA.lt
 replace hC := hC.below b1_3 hC.lt
 replace hR := hR.below b1_3 hR.lt
 replace z1 := z1.below b1_3
 replace n1 := n1.below b1_3
 replace n2 := n2.below b1_3
 replace z2 := z2.below b1_3
 replace z3 := z3.below b1_3
 replace n4 := n4.below b1_3
 replace hB := hB.trans (b1_3.mono hB.size)
 obtain ⟨s5, A5, L5, C5, D5, M5, E5, rfl, q5⟩ := q5.opn
 go_wp2_with fail
 refine hK.out _ _ ?_ (fun hHeld => ?_)
 · exact ⟨hA.cell 0, hA.cell 1, hA.cell 2, hC.cell 0, hC.cell 1, hC.cell 2⟩
 clear hK K
 refine tkH 16 rfl (v := ?v14) ?h14 ?r14
 case h14 => intro w hSw; (try dsimp only at hSw); go_simp; try (with_reducible rfl)
 refine tkH 17 rfl (v := ?v15) ?h15 ?r15
 case h15 => intro w hSw; (try dsimp only at hSw); go_simp; try (with_reducible rfl)
 try simp only [Act.put, lay1, lay2, lay3, lay4, lay5, lay6]
 refine rd1 18 rfl fun K hK => ?_
 obtain ⟨u1_4, eu, hR', kz, kb, kB⟩ := fill3 hR (.bool s5) (.slice A5 L5 C5) (.slice D5 M5 E5) (by simp [noU])
 have x0 : World.cell? _ ⟨g + 1 + 1, 0, none⟩ = some (.bool false) := hR.cell 0
 have x1 : World.cell? _ ⟨g + 1 + 1, 1, none⟩ = some (.slice none 0 0) := hR.cell 1
 have x2 : World.cell? _ ⟨g + 1 + 1, 2, none⟩ = some (.slice none 0 0) := hR.cell 2
 have xf := hR.frozen
 go_simp
 rw [← eu]
 replace q1 := q1.filled kz
 replace q2 := q2.filled kz
 replace hA := kb _ _ _ hA (by omega)
 replace hC := kb _ _ _ hC (by omega)
 replace z1 := z1.filled kz
 replace n1 := kz _ _ n1
 replace n2 := kz _ _ n2
 replace z2 := z2.filled kz
 replace z3 := z3.filled kz
 replace n4 := kz _ _ n4
 replace q5 := q5.filled kz
 replace hB := kB _ _ (by omega) hB
 replace hR := hR'
 clear hR' kz kb kB eu xf x0 x1 x2
 refine hK.out _ _ ?_ (fun hHeld => ?_)
 · exact ⟨hA.cell 0, hA.cell 1, hA.cell 2, hC.cell 0, hC.cell 1, hC.cell 2⟩
 clear hK K
 refine tkH 19 rfl (v := ?v16) ?h16 ?r16
 case h16 => intro w hSw; (try dsimp only at hSw); go_simp; try (with_reducible rfl)
 try simp only [Act.put, lay1, lay2, lay3, lay4, lay5, lay6]
 try dsimp only
 try simp only [Act.put, lay1, lay2, lay3, lay4, lay5, lay6]
 refine wpAnyH_done (by kernel_rfl) ?_ _
 refine NoPanic.normal ?_
 skip
 obtain ⟨c9, c10, c11⟩ := hA.q3
 obtain ⟨c12, c13, c14⟩ := hC.q3
 obtain ⟨c15, c16, c17⟩ := hR.q3
 go_wp2_with fail
 exact bodyPost_ret (v := .tuple #[.agg #[.bool s5, .slice A5 L5 C5, .slice D5 M5 E5], .int .i64 0]) (by simp [results, Tryz.results145, go_sem, c15, c16, c17]) rfl ⟨_, rfl, q5, hB⟩
def quo4 (a b c d : Rat) : List Rat := [divQ a c, divQ a d, divQ b c, divQ b d]
theorem quo4_at {a b c d : Rat} {i j : Nat} (hi : i < 2) (hj : j < 2) : (quo4 a b c d).take (2 * i + j + 1) = (quo4 a b c d).take (2 * i + j) ++ [divQ (qnt [a, b] i) (qnt [c, d] j)] := by
 match i, hi, j, hj with
 | 0, _, 0, _ => rfl
 | 0, _, 1, _ => rfl
 | 1, _, 0, _ => rfl
 | 1, _, 1, _ => rfl
theorem qnt_two {a b : Rat} {P : Rat → Prop} (ha : P a) (hb : P b) {i : Nat} (hi : i < 2) : P (qnt [a, b] i) := by
 match i, hi with
 | 0, _ => exact ha
 | 1, _ => exact hb
theorem add0 (g n : Nat) : (⟨g, 0, none⟩ : Addr).add n = ⟨g, n, none⟩ := by
 unfold Addr.add
 by_cases h : n = 0
 · rw [if_pos h, h]
 · rw [if_neg h, Nat.zero_add]
theorem bq_div {a b : Rat} {k m : Nat} (ha : BQ a k) (hb : BQ b m) : BQ (divQ a b) (k + m + 1) := by
 unfold divQ
 exact BQ.mk ((ha.1.imul (b := sided (decide (b.num < 0)) b.den) (by rw [sided_abs]; exact hb.2)).more (by omega)) ((ha.2.mul hb.1).more (by omega)) (by omega)
theorem IsQ.lets {w : World} {s : Bool} {p q : Value} {r : Rat} (h : IsQ w (.agg #[.bool s, p, q]) r) : ∃ A L C D M E, p = .slice A L C ∧ q = .slice D M E := by
 obtain ⟨s1, A, L, C, D, M, E, e, _⟩ := h.opn
 cases e
 exact ⟨_, _, _, _, _, _, rfl, rfl⟩
set_option maxRecDepth 100000 in
set_option maxHeartbeats 8000000 in
theorem pivdiv_any (u v : Value) (a b c d : Rat) (w : World) (h : IsS w u a b) (h' : IsS w v c d) (sa : BQ a 4000) (sb : BQ b 4000) (sc : BQ c 4000) (sd : BQ d 4000) (hno : (decide (cmpQ c 0 ≤ 0) && decide (cmpQ 0 d ≤ 0)) = false) (c0 : c.num ≠ 0) (d0 : d.num ≠ 0) :
   Calls Tryz.prog 83 #[u, v] w fun e w' => ∃ v', e = .returned (.tuple #[v', .int .i64 0]) ∧ IsS w' v' (mnTo (quo4 a b c d) 3) (mxTo (quo4 a b c d) 3) ∧ Below w.heap.size w w' := by
 obtain ⟨i0', hi', hz0, hz1, hz2⟩ := info_parts info_rat
 have hO := fun w => pof_any 0 (by omega) (by omega) w
 rw [show ((0 : Int) : Rat) = 0 from rfl] at hO
 have bz : BQ (0 : Rat) 1 := BQ.int (n := 0) (by unfold W64; omega)
 have hH := fun v u w h h' => phas_any v u c d 0 w h h' (sc.more (by omega)) (sd.more (by omega)) (bz.more (by omega))
 rw [hno] at hH
 obtain ⟨z0, ez0⟩ : ∃ z : Rat, z = 0 := ⟨_, rfl⟩
 rw [← ez0] at hO hH
 have hAr := fun v w h => around_any v (quo4 a b c d) w h (by simp [quo4]) (fun i hi => by
   rw [← qnt_at hi]
   match i, hi with
   | 0, _ => exact (bq_div sa sc).more (by omega)
   | 1, _ => exact (bq_div sa sd).more (by omega)
   | 2, _ => exact (bq_div sb sc).more (by omega)
   | 3, _ => exact (bq_div sb sd).more (by omega))
 rw [show (quo4 a b c d).length - 1 = 3 from rfl] at hAr
 have hQ := fun i (hi : i < 2) => qnt_two (P := fun q => BQ q 4000) sa sb hi
 have hQ' := fun i (hi : i < 2) => qnt_two (P := fun q => BQ q 4000) sc sd hi
 have hN := fun i (hi : i < 2) => qnt_two (P := fun q => q.num ≠ 0) c0 d0 hi
 obtain ⟨s1, A1, L1, C1, D1, M1, E1, s2, A2, L2, C2, D2, M2, E2, rfl, q1, q2⟩ := h.opn
 obtain ⟨s3, A3, L3, C3, D3, M3, E3, s4, A4, L4, C4, D4, M4, E4, rfl, q3, q4⟩ := h'.opn
 clear h h' sa sb sc sd hno c0 d0 ez0 bz
 obtain ⟨g, hg⟩ : ∃ g, g = w.heap.size := ⟨_, rfl⟩
 obtain ⟨Y0, eY0, hA, bY0⟩ := box1 w 46 #[.bool s1, .slice A1 L1 C1, .slice D1 M1 E1, .bool s2, .slice A2 L2 C2, .slice D2 M2 E2]
 have zY0 : Y0.heap.size = g + 1 := by rw [eY0, World.size_alloc, ← hg]
 rw [← hg] at hA
 replace q1 := q1.below bY0
 replace q2 := q2.below bY0
 replace q3 := q3.below bY0
 replace q4 := q4.below bY0
 have hB := bY0
 obtain ⟨Y1, eY1, hC, bY1⟩ := box1 Y0 46 #[.bool s3, .slice A3 L3 C3, .slice D3 M3 E3, .bool s4, .slice A4 L4 C4, .slice D4 M4 E4]
 have zY1 : Y1.heap.size = g + 1 + 1 := by rw [eY1, World.size_alloc, zY0]
 rw [zY0] at hC
 replace hA := hA.below bY1 hA.lt
 replace q1 := q1.below bY1
 replace q2 := q2.below bY1
 replace q3 := q3.below bY1
 replace q4 := q4.below bY1
 replace hB := hB.trans (bY1.mono hB.size)
 obtain ⟨Y2, eY2, hR, bY2⟩ := box1 Y1 46 #[.bool false, .slice none 0 0, .slice none 0 0, .bool false, .slice none 0 0, .slice none 0 0]
 have zY2 : Y2.heap.size = g + 1 + 1 + 1 := by rw [eY2, World.size_alloc, zY1]
 rw [zY1] at hR
 replace hA := hA.below bY2 hA.lt
 replace hC := hC.below bY2 hC.lt
 replace q1 := q1.below bY2
 replace q2 := q2.below bY2
 replace q3 := q3.below bY2
 replace q4 := q4.below bY2
 replace hB := hB.trans (bY2.mono hB.size)
 have hgw : w.heap.size ≤ g := by omega
 have EY := Lib.hid (And.intro hg (And.intro eY0 (And.intro eY1 eY2)))
 clear hg eY0 zY0 eY1 zY1 eY2 zY2
 obtain ⟨c0, c1, c2, c3, c4, c5⟩ := hA.q6
 obtain ⟨c6, c7, c8, c9, c10, c11⟩ := hC.q6
 obtain ⟨c12, c13, c14, c15, c16, c17⟩ := hR.q6
 go_enter Tryz.func83, Tryz.ntmps83
 go_upto_region 1 with fail
 rw [← EY.out.2.1, ← EY.out.2.2.1, ← EY.out.2.2.2, ← EY.out.1]
 replace hB := hB.drew
 replace q1 := q1.below (bdrew _)
 replace q2 := q2.below (bdrew _)
 replace q3 := q3.below (bdrew _)
 replace q4 := q4.below (bdrew _)
 replace hA := hA.drew
 replace hC := hC.drew
 replace hR := hR.drew
 clear c0 c1 c2 c3 c4 c5 c6 c7 c8 c9 c10 c11 c12 c13 c14 c15 c16 c17
 refine wp_region_noPanic ?_
 refine wp_region_held_drew (S := fun w' => w'.cell? ⟨g + 1, 0, none⟩ = some (.bool s3) ∧ w'.cell? ⟨g + 1, 1, none⟩ = some (.slice A3 L3 C3) ∧ w'.cell? ⟨g + 1, 2, none⟩ = some (.slice D3 M3 E3) ∧ w'.cell? ⟨g + 1, 3, none⟩ = some (.bool s4) ∧ w'.cell? ⟨g + 1, 4, none⟩ = some (.slice A4 L4 C4) ∧ w'.cell? ⟨g + 1, 5, none⟩ = some (.slice D4 M4 E4)) (by kernel_rfl) ?_ (fun hHeld => ?_)
 · exact ⟨hC.cell 0, hC.cell 1, hC.cell 2, hC.cell 3, hC.cell 4, hC.cell 5⟩
 obtain ⟨wd1_1, hwd⟩ : ∃ q, q = Y2.drew := ⟨_, rfl⟩
 rw [← hwd] at hB q1 q2 q3 q4 hA hC hR hHeld ⊢
 clear hwd
 refine tkH 0 rfl (v := ?v1) ?h1 ?r1
 case h1 => intro w hSw; (try dsimp only at hSw); go_simp; try (with_reducible rfl)
 try simp only [Act.put, lay1, lay3, lay4, lay5, lay6]
 refine rd1 1 rfl fun K hK => ?_
 go_simp
 refine (hO _).mono ?_
 rintro e u1_1 ⟨v5, rfl, q5, b1_1⟩
 replace q1 := q1.below b1_1
 replace q2 := q2.below b1_1
 replace q3 := q3.below b1_1
 replace q4 := q4.below b1_1
 replace hA := hA.below b1_1 hA.lt
 replace hC := hC.below b1_1 hC.lt
 replace hR := hR.below b1_1 hR.lt
 replace hB := hB.trans (b1_1.mono hB.size)
 go_wp2_with fail
 refine hK.out _ _ ?_ (fun hHeld => ?_)
 · exact ⟨hC.cell 0, hC.cell 1, hC.cell 2, hC.cell 3, hC.cell 4, hC.cell 5⟩
 clear hK K
 try simp only [Act.put, lay1, lay2, lay3, lay4, lay5, lay6]
 refine rd1 2 rfl fun K hK => ?_
 go_simp
 refine (hH _ _ _ ⟨_, _, _, _, _, _, rfl, q3, q4⟩ q5).mono ?_
 rintro e u1_2 ⟨rfl, b1_2⟩
 replace q1 := q1.below b1_2
 replace q2 := q2.below b1_2
 replace q3 := q3.below b1_2
 replace q4 := q4.below b1_2
 replace hA := hA.below b1_2 hA.lt
 replace hC := hC.below b1_2 hC.lt
 replace hR := hR.below b1_2 hR.lt
 replace q5 := q5.below b1_2
 replace hB := hB.trans (b1_2.mono hB.size)
 go_wp2_with fail
 refine hK.out _ _ ?_ (fun hHeld => ?_)
 · exact ⟨hC.cell 0, hC.cell 1, hC.cell 2, hC.cell 3, hC.cell 4, hC.cell 5⟩
 clear hK K
 try simp only [Act.put, lay1, lay2, lay3, lay4, lay5, lay6]
 try dsimp only
 try simp only [Act.put, lay1, lay2, lay3, lay4, lay5, lay6]
 refine wpAnyH_done (by kernel_rfl) ?_ _
 refine NoPanic.normal ?_
 skip
 obtain ⟨c18, c19, c20, c21, c22, c23⟩ := hA.q6
 obtain ⟨c24, c25, c26, c27, c28, c29⟩ := hC.q6
 obtain ⟨c30, c31, c32, c33, c34, c35⟩ := hR.q6
 clear hO hH
 obtain ⟨X4, eX⟩ : ∃ X, X = u1_2.heap.size := ⟨_, rfl⟩
 have lX4 : w.heap.size ≤ X4 := by rw [eX]; exact hB.size
 have dX4_hA : g < X4 := by have := hA.lt; omega
 have dX4_hC : g + 1 < X4 := by have := hC.lt; omega
 have dX4_hR : g + 1 + 1 < X4 := by have := hR.lt; omega
 obtain ⟨V4_0, eV0, hS, bV0⟩ := box1 u1_2 32 #[.bool s1, .slice A1 L1 C1, .slice D1 M1 E1, .bool s2, .slice A2 L2 C2, .slice D2 M2 E2]
 have zV0 : V4_0.heap.size = X4 + 1 := by rw [eV0, World.size_alloc, ← eX]
 rw [← eX] at hS
 replace q1 := q1.below bV0
 replace q2 := q2.below bV0
 replace q3 := q3.below bV0
 replace q4 := q4.below bV0
 replace hA := hA.below bV0 hA.lt
 replace hC := hC.below bV0 hC.lt
 replace hR := hR.below bV0 hR.lt
 replace hB := hB.trans (bV0.mono hB.size)
 have EV4 := Lib.hid (And.intro eX eV0)
 clear eX eV0 zV0
 obtain ⟨c36, c37, c38, c39, c40, c41⟩ := hA.q6
 obtain ⟨c42, c43, c44, c45, c46, c47⟩ := hC.q6
 obtain ⟨c48, c49, c50, c51, c52, c53⟩ := hR.q6
 obtain ⟨c54, c55, c56, c57, c58, c59⟩ := hS.q6
 go_wp2_with fail
 rw [← EV4.out.1, ← EV4.out.2]
 clear c18 c19 c20 c21 c22 c23 c24 c25 c26 c27 c28 c29 c30 c31 c32 c33 c34 c35 c36 c37 c38 c39 c40 c41 c42 c43 c44 c45 c46 c47 c48 c49 c50 c51 c52 c53 c54 c55 c56 c57 c58 c59
 obtain ⟨B, hBe⟩ : ∃ B, B = V4_0.heap.size := ⟨_, rfl⟩
 have oB : X4 < B := by rw [hBe]; exact hS.lt
 have hBW : w.heap.size ≤ B := by rw [hBe]; exact hB.size
 have gB : g + 1 + 1 < B := by rw [hBe]; exact hR.lt
 have hsz : B ≤ V4_0.heap.size := by omega
 clear hBe
 go_loopw [6, 23] (fun oV iV wr => ∃ i : Nat, iV = .int .i64 i ∧ i ≤ 2 ∧ OwnQs wr B oV ((quo4 a b c d).take (2 * i)) ∧ Blk wr g 46 #[.bool s1, .slice A1 L1 C1, .slice D1 M1 E1, .bool s2, .slice A2 L2 C2, .slice D2 M2 E2] ∧ Blk wr (g + 1) 46 #[.bool s3, .slice A3 L3 C3, .slice D3 M3 E3, .bool s4, .slice A4 L4 C4, .slice D4 M4 E4] ∧ Blk wr (g + 1 + 1) 46 #[.bool false, .slice none 0 0, .slice none 0 0, .bool false, .slice none 0 0, .slice none 0 0] ∧ Blk wr X4 32 #[.bool s1, .slice A1 L1 C1, .slice D1 M1 E1, .bool s2, .slice A2 L2 C2, .slice D2 M2 E2] ∧ IsQ wr (.agg #[.bool s1, .slice A1 L1 C1, .slice D1 M1 E1]) a ∧ IsQ wr (.agg #[.bool s2, .slice A2 L2 C2, .slice D2 M2 E2]) b ∧ IsQ wr (.agg #[.bool s3, .slice A3 L3 C3, .slice D3 M3 E3]) c ∧ IsQ wr (.agg #[.bool s4, .slice A4 L4 C4, .slice D4 M4 E4]) d ∧ B ≤ wr.heap.size ∧ Below w.heap.size w wr) (fun _ iV _ => 2 - (intOf iV).toNat)
 case atStart => exact ⟨0, rfl, by omega, OwnQs.nil _ _, hA, hC, hR, hS, q1, q2, q3, q4, hsz, hB⟩
 case round =>
   clear hsz hA hC hR hS q1 q2 q3 q4 hB
   obtain ⟨i, rfl, hi, ho, hA, hC, hR, hS, q1, q2, q3, q4, hsz, hB⟩ := hrel
   by_cases hi2 : i < 2; rotate_left
   · obtain rfl : i = 2 := by omega
     have ho2 : IsQs wr _ (quo4 a b c d) := ho.is
     clear ho
     obtain ⟨c60, c61, c62, c63, c64, c65⟩ := hA.q6
     obtain ⟨c66, c67, c68, c69, c70, c71⟩ := hC.q6
     obtain ⟨c72, c73, c74, c75, c76, c77⟩ := hR.q6
     obtain ⟨c78, c79, c80, c81, c82, c83⟩ := hS.q6
     go_wp2_with fail
     refine (hAr _ _ ho2).mono ?_
     rintro e w7 ⟨v9, rfl, h9, b7⟩
     replace hA := hA.below b7 hA.lt
     replace hC := hC.below b7 hC.lt
     replace hR := hR.below b7 hR.lt
     replace hS := hS.below b7 hS.lt
     replace hB := hB.trans (b7.mono hB.size)
     clear c60 c61 c62 c63 c64 c65 c66 c67 c68 c69 c70 c71 c72 c73 c74 c75 c76 c77 c78 c79 c80 c81 c82 c83
     obtain ⟨c84, c85, c86, c87, c88, c89⟩ := hA.q6
     obtain ⟨c90, c91, c92, c93, c94, c95⟩ := hC.q6
     obtain ⟨c96, c97, c98, c99, c100, c101⟩ := hR.q6
     obtain ⟨c102, c103, c104, c105, c106, c107⟩ := hS.q6
     obtain ⟨s9, A9, L9, C9, D9, M9, E9, s10, A10, L10, C10, D10, M10, E10, rfl, q9, q10⟩ := h9.opn
     obtain ⟨p1, p2, p3⟩ := put6 hR (.bool s9) (.slice A9 L9 C9) (.slice D9 M9 E9) (.bool s10) (.slice A10 L10 C10) (.slice D10 M10 E10) (by simp [noU]) hB (by omega)
     have rc0 : World.cell? _ ⟨g + 1 + 1, 0, none⟩ = some (.bool false) := hR.cell 0
     have rf0 := hR.frozen 0
     have rc1 : World.cell? _ ⟨g + 1 + 1, 1, none⟩ = some (.slice none 0 0) := hR.cell 1
     have rf1 := hR.frozen 1
     have rc2 : World.cell? _ ⟨g + 1 + 1, 2, none⟩ = some (.slice none 0 0) := hR.cell 2
     have rf2 := hR.frozen 2
     have rc3 : World.cell? _ ⟨g + 1 + 1, 3, none⟩ = some (.bool false) := hR.cell 3
     have rf3 := hR.frozen 3
     have rc4 : World.cell? _ ⟨g + 1 + 1, 4, none⟩ = some (.slice none 0 0) := hR.cell 4
     have rf4 := hR.frozen 4
     have rc5 : World.cell? _ ⟨g + 1 + 1, 5, none⟩ = some (.slice none 0 0) := hR.cell 5
     have rf5 := hR.frozen 5
     have P := Lib.hid (And.intro (⟨_, _, _, _, _, _, rfl, q9.kept p2, q10.kept p2⟩ : IsS _ _ (mnTo (quo4 a b c d) 3) (mxTo (quo4 a b c d) 3)) (And.intro p3 p1.cells6))
     clear p1 p2 p3
     go_wp2_with fail
     obtain ⟨P1, P2, P3, P4, P5, P6, P7, P8⟩ := P.out
     exact bodyPost_ret (v := .tuple #[.agg #[.bool s9, .slice A9 L9 C9, .slice D9 M9 E9, .bool s10, .slice A10 L10 C10, .slice D10 M10 E10], .int .i64 0]) (by simp [results, Tryz.results83, go_sem, P3, P4, P5, P6, P7, P8]) rfl ⟨_, rfl, P1, P2⟩
   have i0 : (0 : Int) ≤ (i : Int) := by omega
   have i1 : (i : Int) < 2 := by omega
   have hLs : IsQs wr (.slice (some ⟨X4, 0, none⟩) 2 2) [a, b] := IsQs.of_blk (es := [(s1, .slice A1 L1 C1, .slice D1 M1 E1), (s2, .slice A2 L2 C2, .slice D2 M2 E2)]) (rs := [a, b]) hS (((OkQ.nil _).snoc q1).snoc q2) (by simp)
   obtain ⟨ad', c', s6, p', r', e1, _, x0, x1, x2, q6⟩ := hLs.at_ (i := i) hi2
   obtain ⟨e1, -, -⟩ := Value.slice.inj e1
   obtain rfl := Option.some.inj e1
   rw [qnt_at] at q6
   obtain ⟨A6, L6, C6, D6, M6, E6, rfl, rfl⟩ := q6.lets
   have ha := add0 X4 (i * 3)
   rw [ha] at x0 x1 x2
   clear hLs e1
   obtain ⟨c60, c61, c62, c63, c64, c65⟩ := hA.q6
   obtain ⟨c66, c67, c68, c69, c70, c71⟩ := hC.q6
   obtain ⟨c72, c73, c74, c75, c76, c77⟩ := hR.q6
   obtain ⟨c78, c79, c80, c81, c82, c83⟩ := hS.q6
   have hoW := ho
   obtain ⟨V7, eV, h8, bV7⟩ := box1 wr 32 #[.bool s6, .slice A6 L6 C6, .slice D6 M6 E6]
   obtain ⟨X7, eX⟩ : ∃ X, X = wr.heap.size := ⟨_, rfl⟩
   rw [← eX] at h8
   have lX7 : w.heap.size ≤ X7 := by rw [eX]; exact hB.size
   have dX7_hA : g ≠ X7 := by have := hA.lt; omega
   have dX7_hC : g + 1 ≠ X7 := by have := hC.lt; omega
   have dX7_hR : g + 1 + 1 ≠ X7 := by have := hR.lt; omega
   have dX7_hS : X4 ≠ X7 := by have := hS.lt; omega
   have EV7 := Lib.hid (And.intro eV eX)
   clear eV eX
   go_upto_region 7 with fail
   rw [← EV7.out.1, ← EV7.out.2]
   replace q1 := q1.below bV7
   replace q2 := q2.below bV7
   replace q3 := q3.below bV7
   replace q4 := q4.below bV7
   replace hA := hA.below bV7 hA.lt
   replace hC := hC.below bV7 hC.lt
   replace hR := hR.below bV7 hR.lt
   replace hS := hS.below bV7 hS.lt
   replace q6 := q6.below bV7
   replace ho := ho.below bV7
   replace hB := hB.trans (bV7.mono hB.size)
   clear c60 c61 c62 c63 c64 c65 c66 c67 c68 c69 c70 c71 c72 c73 c74 c75 c76 c77 c78 c79 c80 c81 c82 c83
   obtain ⟨c84, c85, c86, c87, c88, c89⟩ := hA.q6
   obtain ⟨c90, c91, c92, c93, c94, c95⟩ := hC.q6
   obtain ⟨c96, c97, c98, c99, c100, c101⟩ := hR.q6
   obtain ⟨c102, c103, c104, c105, c106, c107⟩ := hS.q6
   obtain ⟨c108, c109, c110⟩ := h8.q3
   clear x0 x1 x2 ha
   obtain ⟨X9, eX⟩ : ∃ X, X = V7.heap.size := ⟨_, rfl⟩
   have lX9 : w.heap.size ≤ X9 := by rw [eX]; exact hB.size
   have dX9_hA : g < X9 := by have := hA.lt; omega
   have dX9_hC : g + 1 < X9 := by have := hC.lt; omega
   have dX9_hR : g + 1 + 1 < X9 := by have := hR.lt; omega
   have dX9_hS : X4 < X9 := by have := hS.lt; omega
   have dX9_h8 : X7 < X9 := by have := h8.lt; omega
   obtain ⟨V9_0, eV0, hT, bV0⟩ := box1 V7 32 #[.bool s3, .slice A3 L3 C3, .slice D3 M3 E3, .bool s4, .slice A4 L4 C4, .slice D4 M4 E4]
   have zV0 : V9_0.heap.size = X9 + 1 := by rw [eV0, World.size_alloc, ← eX]
   rw [← eX] at hT
   replace q1 := q1.below bV0
   replace q2 := q2.below bV0
   replace q3 := q3.below bV0
   replace q4 := q4.below bV0
   replace hA := hA.below bV0 hA.lt
   replace hC := hC.below bV0 hC.lt
   replace hR := hR.below bV0 hR.lt
   replace hS := hS.below bV0 hS.lt
   replace q6 := q6.below bV0
   replace ho := ho.below bV0
   replace h8 := h8.below bV0 h8.lt
   replace hB := hB.trans (bV0.mono hB.size)
   have EV9 := Lib.hid (And.intro eX eV0)
   clear eX eV0 zV0
   obtain ⟨c111, c112, c113, c114, c115, c116⟩ := hA.q6
   obtain ⟨c117, c118, c119, c120, c121, c122⟩ := hC.q6
   obtain ⟨c123, c124, c125, c126, c127, c128⟩ := hR.q6
   obtain ⟨c129, c130, c131, c132, c133, c134⟩ := hS.q6
   obtain ⟨c135, c136, c137⟩ := h8.q3
   obtain ⟨c138, c139, c140, c141, c142, c143⟩ := hT.q6
   go_wp2_with fail
   rw [← EV9.out.1, ← EV9.out.2]
   clear c84 c85 c86 c87 c88 c89 c90 c91 c92 c93 c94 c95 c96 c97 c98 c99 c100 c101 c102 c103 c104 c105 c106 c107 c108 c109 c110 c111 c112 c113 c114 c115 c116 c117 c118 c119 c120 c121 c122 c123 c124 c125 c126 c127 c128 c129 c130 c131 c132 c133 c134 c135 c136 c137 c138 c139 c140 c141 c142 c143
   have z8 : wr.heap.size ≤ X7 := by rw [EV7.out.2]; exact Nat.le_refl _
   have zB : wr.heap.size ≤ X9 := by omega
   have o8 : ∀ u : Value, OwnQs wr B u ((quo4 a b c d).take (2 * i)) → u.ownBlock ≠ some X7 ∧ u.ownBlock ≠ some X9 := fun u hu => ⟨fun e => by have := (hu.lt _ e).2; omega, fun e => by have := (hu.lt _ e).2; omega⟩
   obtain ⟨o8, oB'⟩ := o8 _ hoW
   clear hoW
   have hszV : B ≤ V9_0.heap.size := by have := hT.lt; omega
   have b8 : B ≤ X7 := by omega
   have bB : B ≤ X9 := by omega
   skip
   go_loopw [6, 33] (fun oV jV wi => ∃ j : Nat, jV = .int .i64 j ∧ j ≤ 2 ∧ OwnQs wi B oV ((quo4 a b c d).take (2 * i + j)) ∧ oV.ownBlock ≠ some X7 ∧ oV.ownBlock ≠ some X9 ∧ Blk wi g 46 #[.bool s1, .slice A1 L1 C1, .slice D1 M1 E1, .bool s2, .slice A2 L2 C2, .slice D2 M2 E2] ∧ Blk wi (g + 1) 46 #[.bool s3, .slice A3 L3 C3, .slice D3 M3 E3, .bool s4, .slice A4 L4 C4, .slice D4 M4 E4] ∧ Blk wi (g + 1 + 1) 46 #[.bool false, .slice none 0 0, .slice none 0 0, .bool false, .slice none 0 0, .slice none 0 0] ∧ Blk wi X4 32 #[.bool s1, .slice A1 L1 C1, .slice D1 M1 E1, .bool s2, .slice A2 L2 C2, .slice D2 M2 E2] ∧ IsQ wi (.agg #[.bool s1, .slice A1 L1 C1, .slice D1 M1 E1]) a ∧ IsQ wi (.agg #[.bool s2, .slice A2 L2 C2, .slice D2 M2 E2]) b ∧ IsQ wi (.agg #[.bool s3, .slice A3 L3 C3, .slice D3 M3 E3]) c ∧ IsQ wi (.agg #[.bool s4, .slice A4 L4 C4, .slice D4 M4 E4]) d ∧ Blk wi X7 32 #[.bool s6, .slice A6 L6 C6, .slice D6 M6 E6] ∧ Blk wi X9 32 #[.bool s3, .slice A3 L3 C3, .slice D3 M3 E3, .bool s4, .slice A4 L4 C4, .slice D4 M4 E4] ∧ IsQ wi (.agg #[.bool s6, .slice A6 L6 C6, .slice D6 M6 E6]) (qnt [a, b] i) ∧ B ≤ wi.heap.size ∧ Below w.heap.size w wi) (fun _ jV _ => 2 - (intOf jV).toNat)
   case atStart => exact ⟨0, rfl, by omega, ho, o8, oB', hA, hC, hR, hS, q1, q2, q3, q4, h8, hT, q6, hszV, hB⟩
   case round =>
     clear ho o8 oB' hA hC hR hS q1 q2 q3 q4 h8 hT q6 hszV hB hsz
     obtain ⟨j, rfl, hj, ho, o8, oB', hA, hC, hR, hS, q1, q2, q3, q4, h8, hT, q6, hsz, hB⟩ := hrel
     by_cases hj2 : j < 2; rotate_left
     · obtain rfl : j = 2 := by omega
       go_wp2
       exact ⟨⟨i + 1, by go_num, by omega, ho, hA, hC, hR, hS, q1, q2, q3, q4, hsz, hB⟩, by simp [intOf]; omega⟩
     have j0 : (0 : Int) ≤ (j : Int) := by omega
     have j1 : (j : Int) < 2 := by omega
     have hLs : IsQs wr (.slice (some ⟨X9, 0, none⟩) 2 2) [c, d] := IsQs.of_blk (es := [(s3, .slice A3 L3 C3, .slice D3 M3 E3), (s4, .slice A4 L4 C4, .slice D4 M4 E4)]) (rs := [c, d]) hT (((OkQ.nil _).snoc q3).snoc q4) (by simp)
     obtain ⟨ad', c', s7, p', r', e1, _, x0, x1, x2, q7⟩ := hLs.at_ (i := j) hj2
     obtain ⟨e1, -, -⟩ := Value.slice.inj e1
     obtain rfl := Option.some.inj e1
     rw [qnt_at] at q7
     obtain ⟨A7, L7, C7, D7, M7, E7, rfl, rfl⟩ := q7.lets
     have ha := add0 X9 (j * 3)
     rw [ha] at x0 x1 x2
     clear hLs e1
     obtain ⟨c144, c145, c146, c147, c148, c149⟩ := hA.q6
     obtain ⟨c150, c151, c152, c153, c154, c155⟩ := hC.q6
     obtain ⟨c156, c157, c158, c159, c160, c161⟩ := hR.q6
     obtain ⟨c162, c163, c164, c165, c166, c167⟩ := hS.q6
     obtain ⟨c168, c169, c170⟩ := h8.q3
     obtain ⟨c171, c172, c173, c174, c175, c176⟩ := hT.q6
     obtain ⟨V12, eV, h10, bV12⟩ := box1 wr 32 #[.bool s7, .slice A7 L7 C7, .slice D7 M7 E7]
     obtain ⟨X12, eX⟩ : ∃ X, X = wr.heap.size := ⟨_, rfl⟩
     rw [← eX] at h10
     have lX12 : w.heap.size ≤ X12 := by rw [eX]; exact hB.size
     have dX12_hA : g ≠ X12 := by have := hA.lt; omega
     have dX12_hC : g + 1 ≠ X12 := by have := hC.lt; omega
     have dX12_hR : g + 1 + 1 ≠ X12 := by have := hR.lt; omega
     have dX12_hS : X4 ≠ X12 := by have := hS.lt; omega
     have dX12_h8 : X7 ≠ X12 := by have := h8.lt; omega
     have dX12_hT : X9 ≠ X12 := by have := hT.lt; omega
     have EV12 := Lib.hid (And.intro eV eX)
     clear eV eX
     go_upto_region 10 with fail
     rw [← EV12.out.1, ← EV12.out.2]
     replace q1 := q1.below bV12
     replace q2 := q2.below bV12
     replace q3 := q3.below bV12
     replace q4 := q4.below bV12
     replace hA := hA.below bV12 hA.lt
     replace hC := hC.below bV12 hC.lt
     replace hR := hR.below bV12 hR.lt
     replace hS := hS.below bV12 hS.lt
     replace q6 := q6.below bV12
     replace ho := ho.below bV12
     replace h8 := h8.below bV12 h8.lt
     replace hT := hT.below bV12 hT.lt
     replace q7 := q7.below bV12
     replace hB := hB.trans (bV12.mono hB.size)
     clear c144 c145 c146 c147 c148 c149 c150 c151 c152 c153 c154 c155 c156 c157 c158 c159 c160 c161 c162 c163 c164 c165 c166 c167 c168 c169 c170 c171 c172 c173 c174 c175 c176
     obtain ⟨c177, c178, c179, c180, c181, c182⟩ := hA.q6
     obtain ⟨c183, c184, c185, c186, c187, c188⟩ := hC.q6
     obtain ⟨c189, c190, c191, c192, c193, c194⟩ := hR.q6
     obtain ⟨c195, c196, c197, c198, c199, c200⟩ := hS.q6
     obtain ⟨c201, c202, c203⟩ := h8.q3
     obtain ⟨c204, c205, c206, c207, c208, c209⟩ := hT.q6
     obtain ⟨c210, c211, c212⟩ := h10.q3
     clear x0 x1 x2 ha
     have hDv := fun u v w h1 h2 => prdiv_any u v (qnt [a, b] i) (qnt [c, d] j) w h1 h2 ((hQ i hi2).more (by omega)) ((hQ' j hj2).more (by omega)) (hN j hj2)
     have HT := Lib.hid (quo4_at (a := a) (b := b) (c := c) (d := d) hi2 hj2)
     generalize divQ (qnt [a, b] i) (qnt [c, d] j) = rq at *
     generalize hrx : qnt [a, b] i = rx at *
     have HX := Lib.hid hrx
     clear hrx
     generalize qnt [c, d] j = ry at *
     obtain ⟨rl, erl⟩ : ∃ rl, rl = (quo4 a b c d).take (2 * i + j) := ⟨_, rfl⟩
     have hrl : rl.length ≤ 4 := by rw [erl, List.length_take]; simp [quo4]; omega
     rw [← erl] at ho HT
     clear erl
     go_wp2_with fail
     refine (hDv _ _ _ q6 q7).mono ?_
     rintro e w14 ⟨v11, rfl, q11, b14⟩
     replace q1 := q1.below b14
     replace q2 := q2.below b14
     replace q3 := q3.below b14
     replace q4 := q4.below b14
     replace hA := hA.below b14 hA.lt
     replace hC := hC.below b14 hC.lt
     replace hR := hR.below b14 hR.lt
     replace hS := hS.below b14 hS.lt
     replace q6 := q6.below b14
     replace ho := ho.below b14
     replace h8 := h8.below b14 h8.lt
     replace hT := hT.below b14 hT.lt
     replace q7 := q7.below b14
     replace h10 := h10.below b14 h10.lt
     replace hB := hB.trans (b14.mono hB.size)
     clear c177 c178 c179 c180 c181 c182 c183 c184 c185 c186 c187 c188 c189 c190 c191 c192 c193 c194 c195 c196 c197 c198 c199 c200 c201 c202 c203 c204 c205 c206 c207 c208 c209 c210 c211 c212
     obtain ⟨c213, c214, c215, c216, c217, c218⟩ := hA.q6
     obtain ⟨c219, c220, c221, c222, c223, c224⟩ := hC.q6
     obtain ⟨c225, c226, c227, c228, c229, c230⟩ := hR.q6
     obtain ⟨c231, c232, c233, c234, c235, c236⟩ := hS.q6
     obtain ⟨c237, c238, c239⟩ := h8.q3
     obtain ⟨c240, c241, c242, c243, c244, c245⟩ := hT.q6
     obtain ⟨c246, c247, c248⟩ := h10.q3
     obtain ⟨s11, A11, L11, C11, D11, M11, E11, rfl, q11⟩ := q11.opn
     obtain ⟨V16, eV, h11, bV16⟩ := box1 w14 32 #[.bool s11, .slice A11 L11 C11, .slice D11 M11 E11]
     obtain ⟨X16, eX⟩ : ∃ X, X = w14.heap.size := ⟨_, rfl⟩
     rw [← eX] at h11
     have lX16 : w.heap.size ≤ X16 := by rw [eX]; exact hB.size
     have dX16_hA : g ≠ X16 := by have := hA.lt; omega
     have dX16_hC : g + 1 ≠ X16 := by have := hC.lt; omega
     have dX16_hR : g + 1 + 1 ≠ X16 := by have := hR.lt; omega
     have dX16_hS : X4 ≠ X16 := by have := hS.lt; omega
     have dX16_h8 : X7 ≠ X16 := by have := h8.lt; omega
     have dX16_hT : X9 ≠ X16 := by have := hT.lt; omega
     have dX16_h10 : X12 ≠ X16 := by have := h10.lt; omega
     have EV16 := Lib.hid (And.intro eV eX)
     clear eV eX
     go_upto_region 11 with fail
     rw [← EV16.out.1, ← EV16.out.2]
     replace q1 := q1.below bV16
     replace q2 := q2.below bV16
     replace q3 := q3.below bV16
     replace q4 := q4.below bV16
     replace hA := hA.below bV16 hA.lt
     replace hC := hC.below bV16 hC.lt
     replace hR := hR.below bV16 hR.lt
     replace hS := hS.below bV16 hS.lt
     replace q6 := q6.below bV16
     replace ho := ho.below bV16
     replace h8 := h8.below bV16 h8.lt
     replace hT := hT.below bV16 hT.lt
     replace q7 := q7.below bV16
     replace h10 := h10.below bV16 h10.lt
     replace q11 := q11.below bV16
     replace hB := hB.trans (bV16.mono hB.size)
     clear c213 c214 c215 c216 c217 c218 c219 c220 c221 c222 c223 c224 c225 c226 c227 c228 c229 c230 c231 c232 c233 c234 c235 c236 c237 c238 c239 c240 c241 c242 c243 c244 c245 c246 c247 c248
     obtain ⟨c249, c250, c251, c252, c253, c254⟩ := hA.q6
     obtain ⟨c255, c256, c257, c258, c259, c260⟩ := hC.q6
     obtain ⟨c261, c262, c263, c264, c265, c266⟩ := hR.q6
     obtain ⟨c267, c268, c269, c270, c271, c272⟩ := hS.q6
     obtain ⟨c273, c274, c275⟩ := h8.q3
     obtain ⟨c276, c277, c278, c279, c280, c281⟩ := hT.q6
     obtain ⟨c282, c283, c284⟩ := h10.q3
     obtain ⟨c285, c286, c287⟩ := h11.q3
     obtain ⟨es, k1, k2, k3⟩ := ho
     obtain ⟨N, eN⟩ : ∃ N, N = rl.length := ⟨_, rfl⟩
     rw [← eN] at k2 hrl
     obtain ⟨A9, c9, rfl, _, _, _⟩ := own3_form k2
     have HN := Lib.hid eN
     clear eN
     have bA : Below V16.heap.size V16 (V16.alloc (.cells #[.bool s11, .slice A11 L11 C11, .slice D11 M11 E11] 32)) := (Below.refl _ _).alloc (Nat.le_refl _) _
     have hsc : B ≤ V16.heap.size := by have := hT.lt; omega
     have hnoA := k3.below k2 bA
     have hkA := k1.below bA
     have hqA := q11.below bA
     go_wp2_with (at_builtin; go_must (refine wpList_append_noU _ rfl _ _ 40 rfl B 32 i0' _ 3 56 Tryz.underlying40 hi' hz0 hz1 hz2 rfl (by omega) (by simp [Value.cells, noU]) _ N (flatQ es) rfl (k2.alloc _) hnoA ⟨V16.heap.size, 0, none⟩ 1 1 (cellsQ (s11, .slice A11 L11 C11, .slice D11 M11 E11)) rfl rfl (lit3_cells _ _ _ _ _) (by simp [cellsQ, Value.oneCell']) (by simp [cellsQ, noU]) (by omega) (by unfold maxLen; omega) (by omega) (by simp; omega) ?_; intro v' w2 hown' hgrow hno' hat; obtain ⟨A8', c8', ev8, _, _, _⟩ := own3_form hown'; subst ev8))
     have hpush : OwnQs w2 B (.slice A8' (N + 1) c8') (rl ++ [rq]) := OwnQs.push (e := (s11, .slice A11 L11 C11, .slice D11 M11 E11)) hkA hnoA (by rw [← HN.out]; exact k2.alloc _) hqA (by rw [← HN.out]; exact hown') hgrow hno'
     have kq : ∀ u r, IsQ V16 u r → IsQ w2 u r := fun u r h => (h.below bA).kept (fun v n h => IsL.noUB h hnoA (k2.alloc _) hgrow)
     have kb : ∀ X t cs, Blk V16 X t cs → (Value.slice A9 N c9).ownBlock ≠ some X → Blk w2 X t cs := fun X t cs h hne => (hgrow.block X (by have := h.lt; simp; omega) (fun e => hne e.symm)).trans (h.below bA h.lt)
     have kl : ∀ X, X < B → (Value.slice A9 N c9).ownBlock ≠ some X := fun X hX e => by have := (k2.lt X e).1; omega
     have kn : ∀ X, X < V16.heap.size → (Value.slice A9 N c9).ownBlock ≠ some X → (Value.slice A8' (N + 1) c8').ownBlock ≠ some X := fun X hX hne e => by
       rcases hat with h | h
       · rw [h] at e; exact hne e
       · rw [h] at e; injection e with e; simp at e; omega
     have hBw : Below w.heap.size w w2 := hB.trans ((((Below.refl w.heap.size V16).alloc hB.size _)).grown hgrow (by simp; have := hB.size; omega) (fun k e => by have := (k2.lt k e).1; omega))
     have l8 := h8.lt
     have lT := hT.lt
     have hsw : B ≤ w2.heap.size := by have := hgrow.size; simp at this; omega
     rw [← HT.out] at hpush
     replace hA := kb _ _ _ hA (kl _ (by omega))
     replace hC := kb _ _ _ hC (kl _ (by omega))
     replace hR := kb _ _ _ hR (kl _ (by omega))
     replace hS := kb _ _ _ hS (kl _ (by omega))
     replace h8 := kb _ _ _ h8 o8
     replace hT := kb _ _ _ hT oB'
     replace q1 := kq _ _ q1
     replace q2 := kq _ _ q2
     replace q3 := kq _ _ q3
     replace q4 := kq _ _ q4
     replace q6 := kq _ _ q6
     exact ⟨⟨j + 1, by go_num, by omega, hpush, kn _ l8 o8, kn _ lT oB', hA, hC, hR, hS, q1, q2, q3, q4, h8, hT, (by rw [HX.out]; exact q6), hsw, hBw⟩, by simp [intOf]; omega⟩
end Go.Proofs.YtdnjdglekifhpaaGreat
