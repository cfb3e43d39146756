/- The document's layer 6: rationals and powers of two. Printed by gen_dyad.py. -/
import Derived.Test.YtbnnonmkkkhepaaRat2
namespace Go.Proofs.Ytbnnonmkkkhepaa
open Go.RowKit
attribute [local go_sem ↓] Go.wp_at_zero Go.wp_at_succ

set_option maxHeartbeats 2000000 in
theorem back_any (v : Value) (z : Int) (k : Nat) (w : World) (h : IsZ w v z) (hk : k ≤ 2000) (sz : Sz z.natAbs 10000) :
    Calls Try.prog 54 #[v, .int .i64 k] w fun e w' => ∃ v', e = .returned (.tuple #[v', .int .i64 0]) ∧ IsQ w' v' (mkRat z (2 ^ k)) ∧ Below w.heap.size w w' := by
  have hO := fun w => rof_any 1 (by unfold W64; omega) w
  have hS := fun v w h => shl_any v 1 k (by omega) w h (Sz.one.more (by omega))
  have hp : 0 < 2 ^ k := Nat.pow_pos (by omega)
  have sp : Sz (2 ^ k) 10000 := (Sz.two_pow k).more (by omega)
  have hM := fun u w hu h => rqmake_any v u z (2 ^ k) w h hu (sz.more (by omega)) (sp.more (by omega)) hp
  rw [Nat.one_mul] at hS
  have hz := h
  obtain ⟨nv, rfl, hn⟩ := h
  obtain ⟨An, Ln, Cn, rfl⟩ := hn.frm
  generalize mkRat z (2 ^ k) = r at *
  generalize 2 ^ k = p at *
  generalize decide (z < 0) = s at *
  clear hp sp sz hn
  obtain ⟨W0, hW, hT, hB⟩ := box2 w 38 40 #[.bool s, .slice An Ln Cn] #[.bool false, .slice none 0 0, .slice none 0 0]
  obtain ⟨g, hg⟩ : ∃ g, g = w.heap.size := ⟨_, rfl⟩
  have hW' := Lib.hid (And.intro hW hg)
  rw [← hg] at hT
  have hgw : w.heap.size ≤ g := by omega
  clear hW hg
  obtain ⟨hA, hR⟩ := hT
  replace hz := hz.below hB
  obtain ⟨c1_hA_0, c1_hA_1⟩ := hA.cells2
  obtain ⟨c1_hR_0, c1_hR_1, c1_hR_2⟩ := hR.cells3
  go_enter Try.func54, Try.ntmps54
  go_wp2_with fail
  rw [← hW'.out.1, ← hW'.out.2]
  refine (hO _).mono ?_
  rintro e w1 ⟨v1, rfl, h1, b1⟩
  replace hz := hz.below b1
  replace hA := hA.below b1 hA.lt
  replace hR := hR.below b1 hR.lt
  replace hB := hB.trans (b1.mono hB.size)
  clear c1_hA_0 c1_hA_1 c1_hR_0 c1_hR_1 c1_hR_2
  obtain ⟨c2_hA_0, c2_hA_1⟩ := hA.cells2
  obtain ⟨c2_hR_0, c2_hR_1, c2_hR_2⟩ := hR.cells3
  go_wp2_with fail
  refine (hS _ _ h1).mono ?_
  rintro e w2 ⟨v2, rfl, h2, b2⟩
  replace hz := hz.below b2
  replace hA := hA.below b2 hA.lt
  replace hR := hR.below b2 hR.lt
  replace h1 := h1.below b2
  replace hB := hB.trans (b2.mono hB.size)
  clear c2_hA_0 c2_hA_1 c2_hR_0 c2_hR_1 c2_hR_2
  obtain ⟨c3_hA_0, c3_hA_1⟩ := hA.cells2
  obtain ⟨c3_hR_0, c3_hR_1, c3_hR_2⟩ := hR.cells3
  go_wp2_with fail
  refine (hM _ _ h2 hz).mono ?_
  rintro e w3 ⟨v3, rfl, ⟨n3, d3, rfl, h3, k3⟩, b3⟩
  replace hz := hz.below b3
  replace hA := hA.below b3 hA.lt
  replace hR := hR.below b3 hR.lt
  replace h1 := h1.below b3
  replace h2 := h2.below b3
  replace hB := hB.trans (b3.mono hB.size)
  clear c3_hA_0 c3_hA_1 c3_hR_0 c3_hR_1 c3_hR_2
  obtain ⟨c4_hA_0, c4_hA_1⟩ := hA.cells2
  obtain ⟨c4_hR_0, c4_hR_1, c4_hR_2⟩ := hR.cells3
  obtain ⟨A2, L2, C2, rfl⟩ := h3.frm
  obtain ⟨A3, L3, C3, rfl⟩ := k3.frm
  obtain ⟨p1, p2, p3⟩ := put3 hR (.bool (decide (r.num < 0))) (.slice A2 L2 C2) (.slice A3 L3 C3) (by simp [noU]) hB (by omega)
  have q0 := hR.cell 0
  have z0 := hR.frozen 0
  have q1 := hR.cell 1
  have z1 := hR.frozen 1
  have q2 := hR.cell 2
  have z2 := hR.frozen 2
  have P := Lib.hid (And.intro (⟨_, _, rfl, p2 _ _ h3, p2 _ _ k3⟩ : IsQ _ (.agg #[.bool (decide (r.num < 0)), .slice A2 L2 C2, .slice A3 L3 C3]) r) (And.intro p3 p1.cells3))
  clear p1 p2 p3 hO hS hM
  go_wp2_with fail
  obtain ⟨P1, P2, P3, P4, P5⟩ := P.out
  exact bodyPost_ret (v := .tuple #[.agg #[.bool (decide (r.num < 0)), .slice A2 L2 C2, .slice A3 L3 C3], .int .i64 0]) (by simp [results, Try.results54, go_sem, P3, P4, P5, q0, q1, q2]) rfl ⟨_, rfl, P1, P2⟩
theorem floor_neg (n D : Nat) (hD : 0 < D) : -(n : Int) / (D : Int) = -((n / D + (if 0 < n % D then 1 else 0) : Nat) : Int) := by
  have hr := Nat.mod_lt n hD
  have hn := Nat.div_add_mod n D
  generalize n / D = q at *
  generalize n % D = r at *
  by_cases h0 : r = 0
  · subst h0
    have e0 : -(n : Int) = (D : Int) * (-(q : Int)) := by rw [← hn]; simp [Int.mul_neg]
    rw [e0, Int.mul_ediv_cancel_left _ (by omega)]; simp
  · have e0 : -(n : Int) = ((D - r : Nat) : Int) + (D : Int) * (-(q : Int) - 1) := by
      rw [← hn, Int.mul_sub, Int.mul_neg]; push_cast [Nat.le_of_lt hr]; rw [Int.mul_one]; omega
    rw [e0, Int.add_mul_ediv_left _ _ (by omega), Int.ediv_eq_zero_of_lt (by omega) (by omega), Int.zero_add, if_pos (by omega)]; omega
/-- the floor of a rational times a power of two -/
def flr (a : Rat) (k : Nat) : Int := a.num * 2 ^ k / a.den
theorem flr_pos (a : Rat) (k : Nat) (h : ¬ a.num < 0) : flr a k = ((a.num.natAbs * 2 ^ k / a.den : Nat) : Int) := by
  unfold flr
  have e : a.num = (a.num.natAbs : Int) := by omega
  generalize a.num.natAbs = x at *
  rw [e]; simp
theorem flr_neg (a : Rat) (k : Nat) (h : a.num < 0) : flr a k = -((a.num.natAbs * 2 ^ k / a.den + (if 0 < a.num.natAbs * 2 ^ k % a.den then 1 else 0) : Nat) : Int) := by
  unfold flr
  have e : a.num = -(a.num.natAbs : Int) := by omega
  have hd := Rat.den_pos a
  generalize a.num.natAbs = x at *
  rw [e, ← floor_neg _ _ hd, Int.neg_mul]; simp
set_option maxHeartbeats 4000000 in
theorem floor_any (v : Value) (a : Rat) (k : Nat) (w : World) (h : IsQ w v a) (hk : k ≤ 2000) (sa : BQ a 10000) :
    Calls Try.prog 73 #[v, .int .i64 k] w fun e w' => ∃ v', e = .returned (.tuple #[v', .int .i64 0]) ∧ IsZ w' v' (flr a k) ∧ Below w.heap.size w w' := by
  have hd := Rat.den_pos a
  have fp := flr_pos a k
  have fn := flr_neg a k
  obtain ⟨pv, qv, rfl, hp, hq⟩ := h
  have hS := fun w h => shl_any pv a.num.natAbs k (by omega) w h (sa.1.more (by omega))
  have s2 : Sz (a.num.natAbs * 2 ^ k) 20000 := (sa.1.mul (Sz.two_pow k)).more (by omega)
  have hD := fun u w hu hq => divmod_any u qv (a.num.natAbs * 2 ^ k) a.den w hu hq (s2.more (by omega)) (sa.2.more (by omega)) hd
  have s3 : Sz (a.num.natAbs * 2 ^ k / a.den) 20000 := s2.le (Nat.div_le_self _ _)
  have hO := fun w => rof_any 1 (by unfold W64; omega) w
  have hA := fun u v w hu hv => radd_any u v (a.num.natAbs * 2 ^ k / a.den) 1 w hu hv (s3.fin (by omega)) (Sz.one.fin (by omega))
  obtain ⟨Ap, Lp, Cp, rfl⟩ := hp.frm
  obtain ⟨Aq, Lq, Cq, rfl⟩ := hq.frm
  have hrL := fun (v : Value) (w : World) (h : IsN w v (a.num.natAbs * 2 ^ k % a.den)) => h.open_
  generalize flr a k = z at *
  generalize a.num.natAbs * 2 ^ k / a.den = n at *
  generalize a.num.natAbs * 2 ^ k % a.den = r at *
  generalize a.num.natAbs * 2 ^ k = m at *
  generalize a.num.natAbs = x at *
  generalize a.den = d at *
  clear s2 s3 sa hd
  by_cases hs : a.num < 0
  · have fz := fn hs
    rw [decide_eq_true hs]
    clear fp fn hs
    obtain ⟨W0, hW, hT, hB⟩ := box2 w 40 38 #[.bool true, .slice Ap Lp Cp, .slice Aq Lq Cq] #[.bool false, .slice none 0 0]
    obtain ⟨g, hg⟩ : ∃ g, g = w.heap.size := ⟨_, rfl⟩
    have hW' := Lib.hid (And.intro hW hg)
    rw [← hg] at hT
    have hgw : w.heap.size ≤ g := by omega
    clear hW hg
    obtain ⟨hA0, hR⟩ := hT
    replace hp := hp.below hB
    replace hq := hq.below hB
    obtain ⟨c1_hA0_0, c1_hA0_1, c1_hA0_2⟩ := hA0.cells3
    obtain ⟨c1_hR_0, c1_hR_1⟩ := hR.cells2
    go_enter Try.func73, Try.ntmps73
    go_wp2_with fail
    rw [← hW'.out.1, ← hW'.out.2]
    refine (hS _ hp).mono ?_
    rintro e w1 ⟨v1, rfl, h1, b1⟩
    replace hp := hp.below b1
    replace hq := hq.below b1
    replace hA0 := hA0.below b1 hA0.lt
    replace hR := hR.below b1 hR.lt
    replace hB := hB.trans (b1.mono hB.size)
    clear c1_hA0_0 c1_hA0_1 c1_hA0_2 c1_hR_0 c1_hR_1
    obtain ⟨c2_hA0_0, c2_hA0_1, c2_hA0_2⟩ := hA0.cells3
    obtain ⟨c2_hR_0, c2_hR_1⟩ := hR.cells2
    go_wp2_with fail
    refine (hD _ _ h1 hq).mono ?_
    rintro e w2 ⟨v2, r2, rfl, h2, hr2, b2⟩
    replace hp := hp.below b2
    replace hq := hq.below b2
    replace hA0 := hA0.below b2 hA0.lt
    replace hR := hR.below b2 hR.lt
    replace h1 := h1.below b2
    replace hB := hB.trans (b2.mono hB.size)
    clear c2_hA0_0 c2_hA0_1 c2_hA0_2 c2_hR_0 c2_hR_1
    obtain ⟨c3_hA0_0, c3_hA0_1, c3_hA0_2⟩ := hA0.cells3
    obtain ⟨c3_hR_0, c3_hR_1⟩ := hR.cells2
    obtain ⟨A2, L2, C2, rfl⟩ := h2.frm
    obtain ⟨A9, L9, C9, rfl, hL9⟩ := hrL _ _ hr2
    by_cases hr0 : 0 < r
    · have hLp : 0 < L9 := by rw [hL9]; exact List.length_pos_iff.2 (fun e => by have := limbs_nil.1 e; omega)
      rw [if_pos hr0] at fz
      have FZ := Lib.hid fz
      clear hL9 hr0 fz
      go_wp2_with fail
      refine (hO _).mono ?_
      rintro e w3 ⟨v3, rfl, h3, b3⟩
      replace hp := hp.below b3
      replace hq := hq.below b3
      replace hA0 := hA0.below b3 hA0.lt
      replace hR := hR.below b3 hR.lt
      replace h1 := h1.below b3
      replace h2 := h2.below b3
      replace hr2 := hr2.below b3
      replace hB := hB.trans (b3.mono hB.size)
      clear c3_hA0_0 c3_hA0_1 c3_hA0_2 c3_hR_0 c3_hR_1
      obtain ⟨c4_hA0_0, c4_hA0_1, c4_hA0_2⟩ := hA0.cells3
      obtain ⟨c4_hR_0, c4_hR_1⟩ := hR.cells2
      go_wp2_with fail
      refine (hA _ _ _ h2 h3).mono ?_
      rintro e w4 ⟨v4, rfl, h4, b4⟩
      replace hp := hp.below b4
      replace hq := hq.below b4
      replace hA0 := hA0.below b4 hA0.lt
      replace hR := hR.below b4 hR.lt
      replace h1 := h1.below b4
      replace h2 := h2.below b4
      replace hr2 := hr2.below b4
      replace h3 := h3.below b4
      replace hB := hB.trans (b4.mono hB.size)
      clear c4_hA0_0 c4_hA0_1 c4_hA0_2 c4_hR_0 c4_hR_1
      obtain ⟨c5_hA0_0, c5_hA0_1, c5_hA0_2⟩ := hA0.cells3
      obtain ⟨c5_hR_0, c5_hR_1⟩ := hR.cells2
      obtain ⟨A4, L4, C4, rfl⟩ := h4.frm
      have hZ : ∀ w' u, IsN w' u (n + 1) → IsZ w' (.agg #[.bool false, u]) ((n + 1 : Nat) : Int) := fun w' u h => ⟨u, by rw [decide_eq_false (by omega)], by rw [Int.natAbs_natCast]; exact h⟩
      have hN := fun u w h => rzneg_any (.agg #[.bool false, u]) ((n + 1 : Nat) : Int) w (hZ w u h)
      rw [← FZ.out] at hN
      clear hZ
      go_wp2_with fail
      refine (hN _ _ h4).mono ?_
      rintro e w5 ⟨v5, rfl, ⟨n5, rfl, h5⟩, b5⟩
      replace hp := hp.below b5
      replace hq := hq.below b5
      replace hA0 := hA0.below b5 hA0.lt
      replace hR := hR.below b5 hR.lt
      replace h1 := h1.below b5
      replace h2 := h2.below b5
      replace hr2 := hr2.below b5
      replace h3 := h3.below b5
      replace h4 := h4.below b5
      replace hB := hB.trans (b5.mono hB.size)
      clear c5_hA0_0 c5_hA0_1 c5_hA0_2 c5_hR_0 c5_hR_1
      obtain ⟨c6_hA0_0, c6_hA0_1, c6_hA0_2⟩ := hA0.cells3
      obtain ⟨c6_hR_0, c6_hR_1⟩ := hR.cells2
      obtain ⟨A5, L5, C5, rfl⟩ := h5.frm
      obtain ⟨p1, p2, p3⟩ := put2 hR (.bool (decide (z < 0))) (.slice A5 L5 C5) (by simp [noU]) hB (by omega)
      have q0 := hR.cell 0
      have z0 := hR.frozen 0
      have q1 := hR.cell 1
      have z1 := hR.frozen 1
      have P := Lib.hid (And.intro (⟨_, rfl, p2 _ _ h5⟩ : IsZ _ (.agg #[.bool (decide (z < 0)), .slice A5 L5 C5]) z) (And.intro p3 p1.cells2))
      clear p1 p2 p3 hS hD hO hA hrL hN
      go_wp2_with fail
      obtain ⟨P1, P2, P3, P4⟩ := P.out
      exact bodyPost_ret (v := .tuple #[.agg #[.bool (decide (z < 0)), .slice A5 L5 C5], .int .i64 0]) (by simp [results, Try.results73, go_sem, P3, P4, q0, q1]) rfl ⟨_, rfl, P1, P2⟩
    · have hr1 : r = 0 := by omega
      have hLz : L9 = 0 := by rw [hL9, hr1, limbs_zero]; rfl
      subst hLz
      rw [if_neg hr0, Nat.add_zero] at fz
      have FZ := Lib.hid fz
      clear hL9 hr0 fz hr1
      have hZ : ∀ w' u, IsN w' u (n) → IsZ w' (.agg #[.bool false, u]) ((n : Nat) : Int) := fun w' u h => ⟨u, by rw [decide_eq_false (by omega)], by rw [Int.natAbs_natCast]; exact h⟩
      have hN := fun u w h => rzneg_any (.agg #[.bool false, u]) ((n : Nat) : Int) w (hZ w u h)
      rw [← FZ.out] at hN
      clear hZ
      go_wp2_with fail
      refine (hN _ _ h2).mono ?_
      rintro e w3 ⟨v5, rfl, ⟨n5, rfl, h5⟩, b3⟩
      replace hp := hp.below b3
      replace hq := hq.below b3
      replace hA0 := hA0.below b3 hA0.lt
      replace hR := hR.below b3 hR.lt
      replace h1 := h1.below b3
      replace h2 := h2.below b3
      replace hr2 := hr2.below b3
      replace hB := hB.trans (b3.mono hB.size)
      clear c3_hA0_0 c3_hA0_1 c3_hA0_2 c3_hR_0 c3_hR_1
      obtain ⟨c4_hA0_0, c4_hA0_1, c4_hA0_2⟩ := hA0.cells3
      obtain ⟨c4_hR_0, c4_hR_1⟩ := hR.cells2
      obtain ⟨A5, L5, C5, rfl⟩ := h5.frm
      obtain ⟨p1, p2, p3⟩ := put2 hR (.bool (decide (z < 0))) (.slice A5 L5 C5) (by simp [noU]) hB (by omega)
      have q0 := hR.cell 0
      have z0 := hR.frozen 0
      have q1 := hR.cell 1
      have z1 := hR.frozen 1
      have P := Lib.hid (And.intro (⟨_, rfl, p2 _ _ h5⟩ : IsZ _ (.agg #[.bool (decide (z < 0)), .slice A5 L5 C5]) z) (And.intro p3 p1.cells2))
      clear p1 p2 p3 hS hD hO hA hrL hN
      go_wp2_with fail
      obtain ⟨P1, P2, P3, P4⟩ := P.out
      exact bodyPost_ret (v := .tuple #[.agg #[.bool (decide (z < 0)), .slice A5 L5 C5], .int .i64 0]) (by simp [results, Try.results73, go_sem, P3, P4, q0, q1]) rfl ⟨_, rfl, P1, P2⟩
  · have fz := fp hs
    rw [decide_eq_false hs]
    clear fp fn
    have KEY : Hid (∀ w' u, IsN w' u n → IsZ w' (.agg #[.bool false, u]) z) := Lib.hid fun w' u h => ⟨u, by rw [fz, decide_eq_false (by omega)], by rw [fz]; simpa using h⟩
    clear fz hs
    obtain ⟨W0, hW, hT, hB⟩ := box2 w 40 38 #[.bool false, .slice Ap Lp Cp, .slice Aq Lq Cq] #[.bool false, .slice none 0 0]
    obtain ⟨g, hg⟩ : ∃ g, g = w.heap.size := ⟨_, rfl⟩
    have hW' := Lib.hid (And.intro hW hg)
    rw [← hg] at hT
    have hgw : w.heap.size ≤ g := by omega
    clear hW hg
    obtain ⟨hA0, hR⟩ := hT
    replace hp := hp.below hB
    replace hq := hq.below hB
    obtain ⟨c1_hA0_0, c1_hA0_1, c1_hA0_2⟩ := hA0.cells3
    obtain ⟨c1_hR_0, c1_hR_1⟩ := hR.cells2
    go_enter Try.func73, Try.ntmps73
    go_wp2_with fail
    rw [← hW'.out.1, ← hW'.out.2]
    refine (hS _ hp).mono ?_
    rintro e w1 ⟨v1, rfl, h1, b1⟩
    replace hp := hp.below b1
    replace hq := hq.below b1
    replace hA0 := hA0.below b1 hA0.lt
    replace hR := hR.below b1 hR.lt
    replace hB := hB.trans (b1.mono hB.size)
    clear c1_hA0_0 c1_hA0_1 c1_hA0_2 c1_hR_0 c1_hR_1
    obtain ⟨c2_hA0_0, c2_hA0_1, c2_hA0_2⟩ := hA0.cells3
    obtain ⟨c2_hR_0, c2_hR_1⟩ := hR.cells2
    go_wp2_with fail
    refine (hD _ _ h1 hq).mono ?_
    rintro e w2 ⟨v2, r2, rfl, h2, hr2, b2⟩
    replace hp := hp.below b2
    replace hq := hq.below b2
    replace hA0 := hA0.below b2 hA0.lt
    replace hR := hR.below b2 hR.lt
    replace h1 := h1.below b2
    replace hB := hB.trans (b2.mono hB.size)
    clear c2_hA0_0 c2_hA0_1 c2_hA0_2 c2_hR_0 c2_hR_1
    obtain ⟨c3_hA0_0, c3_hA0_1, c3_hA0_2⟩ := hA0.cells3
    obtain ⟨c3_hR_0, c3_hR_1⟩ := hR.cells2
    obtain ⟨A2, L2, C2, rfl⟩ := h2.frm
    obtain ⟨p1, p2, p3⟩ := put2 hR (.bool false) (.slice A2 L2 C2) (by simp [noU]) hB (by omega)
    have q0 := hR.cell 0
    have z0 := hR.frozen 0
    have q1 := hR.cell 1
    have z1 := hR.frozen 1
    have P := Lib.hid (And.intro (KEY.out _ _ (p2 _ _ h2)) (And.intro p3 p1.cells2))
    clear p1 p2 p3 hS hD hO hA hrL
    go_wp2_with fail
    obtain ⟨P1, P2, P3, P4⟩ := P.out
    exact bodyPost_ret (v := .tuple #[.agg #[.bool false, .slice A2 L2 C2], .int .i64 0]) (by simp [results, Try.results73, go_sem, P3, P4, q0, q1]) rfl ⟨_, rfl, P1, P2⟩
/-- the ceiling of a rational times a power of two -/
def cel (a : Rat) (k : Nat) : Int := -flr (-a) k
set_option maxHeartbeats 4000000 in
theorem ceil_any (v : Value) (a : Rat) (k : Nat) (w : World) (h : IsQ w v a) (hk : k ≤ 2000) (sa : BQ a 10000) :
    Calls Try.prog 74 #[v, .int .i64 k] w fun e w' => ∃ v', e = .returned (.tuple #[v', .int .i64 0]) ∧ IsZ w' v' (cel a k) ∧ Below w.heap.size w w' := by
  have hN := fun w h => rqneg_any v a w h
  have hF := fun u w h => floor_any u (-a) k w h hk sa.neg
  have hM := fun u w h => rzneg_any u (flr (-a) k) w h
  rw [show -flr (-a) k = cel a k from rfl] at hM
  have hv := h
  obtain ⟨pv, qv, rfl, hp, hq⟩ := h
  generalize cel a k = z at *
  generalize flr (-a) k = y at *
  clear hp hq sa
  obtain ⟨W0, hW, hT, hB⟩ := box2 w 40 38 #[.bool (decide (a.num < 0)), pv, qv] #[.bool false, .slice none 0 0]
  obtain ⟨g, hg⟩ : ∃ g, g = w.heap.size := ⟨_, rfl⟩
  have hW' := Lib.hid (And.intro hW hg)
  rw [← hg] at hT
  have hgw : w.heap.size ≤ g := by omega
  clear hW hg
  obtain ⟨hA, hR⟩ := hT
  replace hv := hv.below hB
  obtain ⟨c1_hA_0, c1_hA_1, c1_hA_2⟩ := hA.cells3
  obtain ⟨c1_hR_0, c1_hR_1⟩ := hR.cells2
  go_enter Try.func74, Try.ntmps74
  go_wp2_with fail
  rw [← hW'.out.1, ← hW'.out.2]
  refine (hN _ hv).mono ?_
  rintro e w1 ⟨v1, rfl, h1, b1⟩
  replace hv := hv.below b1
  replace hA := hA.below b1 hA.lt
  replace hR := hR.below b1 hR.lt
  replace hB := hB.trans (b1.mono hB.size)
  clear c1_hA_0 c1_hA_1 c1_hA_2 c1_hR_0 c1_hR_1
  obtain ⟨c2_hA_0, c2_hA_1, c2_hA_2⟩ := hA.cells3
  obtain ⟨c2_hR_0, c2_hR_1⟩ := hR.cells2
  go_wp2_with fail
  refine (hF _ _ h1).mono ?_
  rintro e w2 ⟨v2, rfl, h2, b2⟩
  replace hv := hv.below b2
  replace hA := hA.below b2 hA.lt
  replace hR := hR.below b2 hR.lt
  replace h1 := h1.below b2
  replace hB := hB.trans (b2.mono hB.size)
  clear c2_hA_0 c2_hA_1 c2_hA_2 c2_hR_0 c2_hR_1
  obtain ⟨c3_hA_0, c3_hA_1, c3_hA_2⟩ := hA.cells3
  obtain ⟨c3_hR_0, c3_hR_1⟩ := hR.cells2
  have h2z := h2
  obtain ⟨n2, rfl, h2n⟩ := h2z
  obtain ⟨A2, L2, C2, rfl⟩ := h2n.frm
  clear h2n
  obtain ⟨V1, eV, hL, bV1⟩ := box1 w2 38 #[.bool (decide (y < 0)), .slice A2 L2 C2]
  obtain ⟨X1, eX⟩ : ∃ X, X = w2.heap.size := ⟨_, rfl⟩
  rw [← eX] at hL
  have EV1 := Lib.hid (And.intro eV eX)
  clear eV eX
  replace hv := hv.below bV1
  replace hA := hA.below bV1 hA.lt
  replace hR := hR.below bV1 hR.lt
  replace h1 := h1.below bV1
  replace h2 := h2.below bV1
  replace hB := hB.trans (bV1.mono hB.size)
  obtain ⟨c4_hA_0, c4_hA_1, c4_hA_2⟩ := hA.cells3
  obtain ⟨c4_hR_0, c4_hR_1⟩ := hR.cells2
  clear c3_hA_0 c3_hA_1 c3_hA_2 c3_hR_0 c3_hR_1 c4_hA_0 c4_hA_1 c4_hA_2 c4_hR_0 c4_hR_1
  obtain ⟨c5_hA_0, c5_hA_1, c5_hA_2⟩ := hA.cells3
  obtain ⟨c5_hR_0, c5_hR_1⟩ := hR.cells2
  obtain ⟨c5_hL_0, c5_hL_1⟩ := hL.cells2
  go_wp2_with fail
  rw [← EV1.out.1, ← EV1.out.2]
  refine (hM _ _ h2).mono ?_
  rintro e w3 ⟨v3, rfl, ⟨n3, rfl, h3⟩, b3⟩
  replace hv := hv.below b3
  replace hA := hA.below b3 hA.lt
  replace hR := hR.below b3 hR.lt
  replace h1 := h1.below b3
  replace h2 := h2.below b3
  replace hL := hL.below b3 hL.lt
  replace hB := hB.trans (b3.mono hB.size)
  clear c5_hA_0 c5_hA_1 c5_hA_2 c5_hR_0 c5_hR_1 c5_hL_0 c5_hL_1
  obtain ⟨c6_hA_0, c6_hA_1, c6_hA_2⟩ := hA.cells3
  obtain ⟨c6_hR_0, c6_hR_1⟩ := hR.cells2
  obtain ⟨c6_hL_0, c6_hL_1⟩ := hL.cells2
  obtain ⟨A3, L3, C3, rfl⟩ := h3.frm
  obtain ⟨p1, p2, p3⟩ := put2 hR (.bool (decide (z < 0))) (.slice A3 L3 C3) (by simp [noU]) hB (by omega)
  have q0 := hR.cell 0
  have z0 := hR.frozen 0
  have q1 := hR.cell 1
  have z1 := hR.frozen 1
  have P := Lib.hid (And.intro (⟨_, rfl, p2 _ _ h3⟩ : IsZ _ (.agg #[.bool (decide (z < 0)), .slice A3 L3 C3]) z) (And.intro p3 p1.cells2))
  clear p1 p2 p3 hN hF hM
  go_wp2_with fail
  obtain ⟨P1, P2, P3, P4⟩ := P.out
  exact bodyPost_ret (v := .tuple #[.agg #[.bool (decide (z < 0)), .slice A3 L3 C3], .int .i64 0]) (by simp [results, Try.results74, go_sem, P3, P4, q0, q1]) rfl ⟨_, rfl, P1, P2⟩
end Go.Proofs.Ytbnnonmkkkhepaa
