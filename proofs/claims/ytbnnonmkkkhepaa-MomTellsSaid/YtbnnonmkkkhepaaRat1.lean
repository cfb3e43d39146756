/- The document's rationals: made, small ones, which is greater. Printed by gen_rat1.py. -/
import Derived.Test.YtbnnonmkkkhepaaZedW
import Derived.Test.YtbnnonmkkkhepaaDivM
import Derived.Test.YtbnnonmkkkhepaaZed2
namespace Go.Proofs.Ytbnnonmkkkhepaa
open Go.RowKit
attribute [local go_sem ↓] Go.wp_at_zero Go.wp_at_succ

/-- the value is this rational -/
def IsQ (w : World) (v : Value) (r : Rat) : Prop := ∃ pn qn, v = .agg #[.bool (decide (r.num < 0)), pn, qn] ∧ IsN w pn r.num.natAbs ∧ IsN w qn r.den
theorem IsQ.below {w w' : World} {v : Value} {r : Rat} (h : IsQ w v r) (hb : Below w.heap.size w w') : IsQ w' v r := by
  obtain ⟨pn, qn, e, h1, h2⟩ := h; exact ⟨pn, qn, e, h1.below hb, h2.below hb⟩
theorem IsN.pos {w : World} {v : Value} {n : Nat} (h : IsN w v n) (h0 : 0 < n) : ∃ A L c, v = .slice A L c ∧ 0 < L := by
  obtain ⟨A, L, c, e, hL⟩ := h.open_
  refine ⟨A, L, c, e, ?_⟩
  rw [hL]; exact List.length_pos_iff.2 (fun e => by have := limbs_nil.1 e; omega)
set_option maxHeartbeats 2000000 in
theorem rqmake_any (vp vq : Value) (p : Int) (q : Nat) (w : World) (hp : IsZ w vp p) (hq : IsN w vq q) (sp : Sz p.natAbs 100000) (sq : Sz q 100000) (h0 : 0 < q) :
    Calls Try.prog 27 #[vp, vq] w fun e w' => ∃ v', e = .returned (.tuple #[v', .int .i64 0]) ∧ IsQ w' v' (mkRat p q) ∧ Below w.heap.size w w' := by
  obtain ⟨np, rfl, hp⟩ := hp
  obtain ⟨m1, m2, m3⟩ := mk_num p q (by omega)
  have hgp : 0 < Nat.gcd p.natAbs q := Nat.gcd_pos_of_pos_right _ h0
  have hG := fun w hp hq => gcd_any np vq p.natAbs q w hp hq sp sq
  have hD1 := fun v w hp hg => divmod_any np v p.natAbs (Nat.gcd p.natAbs q) w hp hg sp (sq.le (Nat.gcd_le_right _ h0)) hgp
  have hD2 := fun v w hp hg => divmod_any vq v q (Nat.gcd p.natAbs q) w hp hg sq (sq.le (Nat.gcd_le_right _ h0)) hgp
  rw [← m1] at hD1
  rw [← m2] at hD2
  rw [← m3] at *
  generalize mkRat p q = r at *
  generalize Nat.gcd p.natAbs q = d at *
  generalize p.natAbs = x at *
  obtain ⟨Aq, Lq, Cq, rfl, hLq⟩ := hq.pos h0
  have hl1 : ((Lq : Int) == 0) = false := by simp; omega
  have hl2 : decide (Lq = 0) = false := by simp; omega
  clear m1 m2 m3 hLq h0 hgp sp sq
  obtain ⟨W0, hW, hT, hB⟩ := box2 w 38 40 #[.bool (decide (r.num < 0)), np] #[.bool false, .slice none 0 0, .slice none 0 0]
  obtain ⟨g, hg⟩ : ∃ g, g = w.heap.size := ⟨_, rfl⟩
  have hW' := Lib.hid (And.intro hW hg)
  rw [← hg] at hT
  clear hW hg
  have hp := hp.below hB
  have hq := hq.below hB
  obtain ⟨q00, q01⟩ := hT.1.cells2
  go_enter Try.func27, Try.ntmps27
  go_wp2_with fail
  rw [← hW'.out.1, ← hW'.out.2]
  refine (hG _ hp hq).mono ?_
  rintro e w1 ⟨v1, rfl, h1, b1⟩
  have hT := hT.below b1 hT.lt
  have hB := hB.trans (b1.mono hB.size)
  have hp := hp.below b1
  have hq := hq.below b1
  obtain ⟨q00, q01⟩ := hT.1.cells2
  go_wp2_with fail
  refine (hD1 _ _ hp h1).mono ?_
  rintro e w2 ⟨v2, r2, rfl, h2, hr2, b2⟩
  have hT := hT.below b2 hT.lt
  have hB := hB.trans (b2.mono hB.size)
  have h1 := h1.below b2
  have hq := hq.below b2
  obtain ⟨q00, q01⟩ := hT.1.cells2
  go_wp2_with fail
  refine (hD2 _ _ hq h1).mono ?_
  rintro e w3 ⟨v3, r3, rfl, h3, hr3, b3⟩
  have hT := hT.below b3 hT.lt
  have hB := hB.trans (b3.mono hB.size)
  have h2 := h2.below b3
  obtain ⟨q00, q01⟩ := hT.1.cells2
  have hR := hT.2
  obtain ⟨A2, L2, C2, rfl⟩ := h2.frm
  obtain ⟨A3, L3, C3, rfl⟩ := h3.frm
  obtain ⟨p1, p2, p3⟩ := put3 hR (.bool (decide (r.num < 0))) (.slice A2 L2 C2) (.slice A3 L3 C3) (by simp [noU]) hB (by rw [hW'.out.2]; omega)
  have q0 := hR.cell 0
  have z0 := hR.frozen 0
  have q1 := hR.cell 1
  have z1 := hR.frozen 1
  have q2 := hR.cell 2
  have z2 := hR.frozen 2
  have P := Lib.hid (And.intro (⟨_, _, rfl, p2 _ _ h2, p2 _ _ h3⟩ : IsQ _ (.agg #[.bool (decide (r.num < 0)), .slice A2 L2 C2, .slice A3 L3 C3]) r) (And.intro p3 p1.cells3))
  clear p1 p2 p3 hG hD1 hD2
  go_wp2
  obtain ⟨P1, P2, P3, P4, P5⟩ := P.out
  exact bodyPost_ret (v := .tuple #[.agg #[.bool (decide (r.num < 0)), .slice A2 L2 C2, .slice A3 L3 C3], .int .i64 0]) (by simp [results, Try.results27, go_sem, P3, P4, P5, q0, q1, q2]) rfl ⟨_, rfl, P1, P2⟩
set_option maxHeartbeats 2000000 in
theorem rqof_any (n : Int) (h0 : -9223372036854775808 ≤ n) (h1 : n ≤ 9223372036854775807) (w : World) :
    Calls Try.prog 81 #[.int .i64 n] w fun e w' => ∃ v', e = .returned v' ∧ IsQ w' v' (n : Rat) ∧ Below w.heap.size w w' := by
  have hZ := fun w => rzof_any n h0 h1 w
  have hO := fun w => rof_any 1 (by unfold W64; omega) w
  obtain ⟨c, hc⟩ : ∃ c, c = n := ⟨_, rfl⟩
  have KEY : Hid (∀ w' b a d, IsN w' a c.natAbs → IsN w' d 1 → b = decide (c < 0) → IsQ w' (.agg #[.bool b, a, d]) (n : Rat)) := by
    rw [hc]; rintro w' b a d h1 h2 rfl; exact ⟨a, d, rfl, h1, h2⟩
  have hZ := fun w => (show Calls Try.prog 55 #[.int .i64 n] w fun e w' => ∃ v', e = .returned v' ∧ IsZ w' v' c ∧ Below w.heap.size w w' by rw [hc]; exact hZ w)
  clear hc
  obtain ⟨W0, hW, hR, hB⟩ := box1 w 40 #[.bool false, .slice none 0 0, .slice none 0 0]
  obtain ⟨g, hg⟩ : ∃ g, g = w.heap.size := ⟨_, rfl⟩
  have hW' := Lib.hid (And.intro hW hg)
  rw [← hg] at hR
  clear hW hg
  go_enter Try.func81, Try.ntmps81
  go_wp2_with fail
  rw [← hW'.out.1, ← hW'.out.2]
  refine (hZ _).mono ?_
  rintro e w1 ⟨v1, rfl, ⟨n1, rfl, h1⟩, b1⟩
  have hR := hR.below b1 hR.lt
  have hB := hB.trans (b1.mono hB.size)
  go_wp2_with fail
  refine (hO _).mono ?_
  rintro e w2 ⟨v2, rfl, h2, b2⟩
  have hR := hR.below b2 hR.lt
  have hB := hB.trans (b2.mono hB.size)
  have h1 := h1.below b2
  obtain ⟨A2, L2, C2, rfl⟩ := h1.frm
  obtain ⟨A3, L3, C3, rfl⟩ := h2.frm
  obtain ⟨p1, p2, p3⟩ := put3 hR (.bool (decide (c < 0))) (.slice A2 L2 C2) (.slice A3 L3 C3) (by simp [noU]) hB (by rw [hW'.out.2]; omega)
  have q0 := hR.cell 0
  have z0 := hR.frozen 0
  have q1 := hR.cell 1
  have z1 := hR.frozen 1
  have q2 := hR.cell 2
  have z2 := hR.frozen 2
  have P := Lib.hid (And.intro (KEY.out _ _ _ _ (p2 _ _ h1) (p2 _ _ h2) rfl) (And.intro p3 p1.cells3))
  clear p1 p2 p3 hZ hO
  go_wp2
  obtain ⟨P1, P2, P3, P4, P5⟩ := P.out
  exact bodyPost_ret (v := .agg #[.bool (decide (c < 0)), .slice A2 L2 C2, .slice A3 L3 C3]) (by simp [results, Try.results81, go_sem, P3, P4, P5, q0, q1, q2]) rfl ⟨_, rfl, P1, P2⟩
set_option maxHeartbeats 2000000 in
theorem rqover_any (vp vq : Value) (p : Int) (q : Nat) (w : World) (hp : IsZ w vp p) (hq : IsN w vq q) (sp : Sz p.natAbs 400000) (sq : Sz q 400000) :
    Calls Try.prog 29 #[vp, vq] w fun e w' => ∃ v', e = .returned v' ∧ IsZ w' v' (p * (q : Int)) ∧ Below w.heap.size w w' := by
  have hM := fun w va vb ha hb => rzmul_any va vb p (q : Int) w ha hb sp (by simpa using sq)
  have hZ : ∀ w, IsN w vq q → IsZ w (.agg #[.bool false, vq]) (q : Int) := fun w h => ⟨vq, by rw [decide_eq_false (by omega)], by simpa using h⟩
  have hp0 := hp
  obtain ⟨np, rfl, hp⟩ := hp
  obtain ⟨Aq, Lq, Cq, rfl⟩ := hq.frm
  obtain ⟨Ap, Lp, Cp, rfl⟩ := hp.frm
  obtain ⟨c, hc⟩ : ∃ c, c = p * (q : Int) := ⟨_, rfl⟩
  rw [← hc] at hM ⊢
  have HZ := Lib.hid hZ
  clear hc hZ sp sq
  generalize decide (p < 0) = b at *
  obtain ⟨W0, hW, hT, hB⟩ := box2 w 38 38 #[.bool b, .slice Ap Lp Cp] #[.bool false, .slice none 0 0]
  obtain ⟨g, hg⟩ : ∃ g, g = w.heap.size := ⟨_, rfl⟩
  have hW' := Lib.hid (And.intro hW hg)
  rw [← hg] at hT
  clear hW hg
  have hp0 := hp0.below hB
  have hq := HZ.out _ (hq.below hB)
  obtain ⟨q00, q01⟩ := hT.1.cells2
  go_enter Try.func29, Try.ntmps29
  go_wp2_with fail
  rw [← hW'.out.1, ← hW'.out.2]
  refine (hM _ _ _ hp0 hq).mono ?_
  rintro e w1 ⟨v1, rfl, ⟨n1, rfl, h1⟩, b1⟩
  obtain ⟨A2, L2, C2, rfl⟩ := h1.frm
  have hT := hT.below b1 hT.lt
  have hB := hB.trans (b1.mono hB.size)
  have hR := hT.2
  obtain ⟨p1, p2, p3⟩ := put2 hR (.bool (decide (c < 0))) (.slice A2 L2 C2) (by simp [noU]) hB (by rw [hW'.out.2]; omega)
  have q0 := hR.cell 0
  have z0 := hR.frozen 0
  have q1 := hR.cell 1
  have z1 := hR.frozen 1
  have P := Lib.hid (And.intro (⟨_, rfl, p2 _ _ h1⟩ : IsZ _ (.agg #[.bool (decide (c < 0)), .slice A2 L2 C2]) c) (And.intro p3 p1.cells2))
  clear p1 p2 p3 hM
  go_wp2
  obtain ⟨P1, P2, P3, P4⟩ := P.out
  exact bodyPost_ret (v := .agg #[.bool (decide (c < 0)), .slice A2 L2 C2]) (by simp [results, Try.results29, go_sem, P3, P4, q0, q1]) rfl ⟨_, rfl, P1, P2⟩
set_option maxHeartbeats 2000000 in
theorem rqabs_any (v : Value) (r : Rat) (w : World) (h : IsQ w v r) :
    Calls Try.prog 35 #[v] w fun e w' => ∃ v', e = .returned v' ∧ IsQ w' v' (absQ r) ∧ Below w.heap.size w w' := by
  obtain ⟨np, nq, rfl, hp, hq⟩ := h
  have KEY : Hid (∀ w', IsN w' np r.num.natAbs → IsN w' nq r.den → IsQ w' (.agg #[.bool false, np, nq]) (absQ r)) :=
    Lib.hid fun w' h1 h2 => ⟨np, nq, by rw [absQ_num, decide_eq_false (by omega)], by rw [absQ_num]; simpa using h1, by rw [absQ_den]; exact h2⟩
  obtain ⟨Ap, Lp, Cp, rfl⟩ := hp.frm
  obtain ⟨Aq, Lq, Cq, rfl⟩ := hq.frm
  generalize decide (r.num < 0) = b at *
  have B0 := ((Below.refl w.heap.size w).alloc (Nat.le_refl _) (.cells #[.bool b, .slice Ap Lp Cp, .slice Aq Lq Cq] 40)).alloc (by simp) (.cells #[.bool false, .slice Ap Lp Cp, .slice Aq Lq Cq] 40)
  have HB := Lib.hid B0
  clear B0
  go_enter Try.func35, Try.ntmps35
  go_wp2
  exact bodyPost_ret (v := .agg #[.bool false, .slice Ap Lp Cp, .slice Aq Lq Cq]) (by simp [results, Try.results35, go_sem]) rfl ⟨_, rfl, KEY.out _ (hp.below HB.out) (hq.below HB.out), HB.out⟩
end Go.Proofs.Ytbnnonmkkkhepaa
