/- A part of the proof of: IN: of intervals in others all updates are in theirs. No conditions: every input. -/
import Derived.Deep.DeepCutAuto
import Derived.Deep.RegionHeld3
import Derived.Test.YtdnjdglekifhpaaGreatTeb
namespace Go.Proofs.YtdnjdglekifhpaaGreat
open Go.RowKit
attribute [local go_sem ↓] Go.wp_at_zero Go.wp_at_succ
theorem IsL.uniq {w : World} {v : Value} {l l' : List Nat} (h : IsL w v l) (h' : IsL w v l') : l = l' := by
 obtain ⟨A, c, rfl, _, _, _, h4⟩ := h
 obtain ⟨A', c', e, _, _, _, k4⟩ := h'
 injection e with e1 e2 e3
 subst e1
 apply List.ext_getElem e2
 intro i hi hi'
 obtain ⟨ad, u, e, _, hu, hc⟩ := h4.at_ hi
 obtain ⟨ad', u', e', _, hu', hc'⟩ := k4.at_ hi'
 subst e
 injection e' with e'
 subst e'
 rw [hc] at hc'
 rw [us_at l i hi] at hu
 rw [us_at l' i hi'] at hu'
 obtain rfl := Option.some.inj hu
 obtain rfl := Option.some.inj hu'
 have e4 := Option.some.inj hc'
 injection e4 with _ e4
 rw [List.getElem?_eq_getElem hi, List.getElem?_eq_getElem hi'] at e4
 simp only [Option.getD_some] at e4
 exact Int.ofNat.inj e4
theorem IsN.uniq {w : World} {v : Value} {n m : Nat} (h : IsN w v n) (h' : IsN w v m) : n = m := by
 have := IsL.uniq h h'
 rw [← num_limbs n, this, num_limbs]
open Classical in
noncomputable def numAt (w : World) (v : Value) : Nat := if h : ∃ n, IsN w v n then h.choose else 0
theorem numAt_eq {w : World} {v : Value} {n : Nat} (h : IsN w v n) : numAt w v = n := by
 unfold numAt
 have hx : ∃ n, IsN w v n := ⟨n, h⟩
 rw [dif_pos hx]
 exact IsN.uniq hx.choose_spec h
theorem newton_up {a x : Nat} (hx : 0 < x) : a < ((x + a / x) / 2 + 1) * ((x + a / x) / 2 + 1) := by
 have h1 : a < x * (a / x + 1) := by
   have := Nat.div_add_mod a x
   have := Nat.mod_lt a hx
   rw [Nat.mul_add, Nat.mul_one]; omega
 generalize a / x = q at *
 have h2 : x + q + 1 ≤ 2 * ((x + q) / 2 + 1) := by omega
 generalize (x + q) / 2 + 1 = m at *
 have h3 : (x + (q + 1)) * (x + (q + 1)) ≤ (2 * m) * (2 * m) := Nat.mul_le_mul (by omega) (by omega)
 have h4 : 4 * (x * (q + 1)) ≤ (x + (q + 1)) * (x + (q + 1)) := by
   have h5 : (x + (q + 1)) * (x + (q + 1)) = x * x + 2 * (x * (q + 1)) + (q + 1) * (q + 1) := by grind
   rw [h5]
   generalize q + 1 = p
   rcases Nat.le_total x p with h | h
   · obtain ⟨d, rfl⟩ := Nat.exists_eq_add_of_le h
     have : x * x + (x + d) * (x + d) = 2 * (x * (x + d)) + d * d := by grind
     omega
   · obtain ⟨d, rfl⟩ := Nat.exists_eq_add_of_le h
     have : (p + d) * (p + d) + p * p = 2 * ((p + d) * p) + d * d := by grind
     omega
 have h6 : (2 * m) * (2 * m) = 4 * (m * m) := by grind
 omega
theorem newton_end {a x : Nat} (hx : 0 < x) (h : x ≤ (x + a / x) / 2) : x * x ≤ a := by
 have h1 : x ≤ a / x := by omega
 exact (Nat.le_div_iff_mul_le hx).1 h1
theorem newton_start (a : Nat) : a < (2 ^ (bl a / 2 + 1) + 1) * (2 ^ (bl a / 2 + 1) + 1) := by
 have h1 := lt_bl a
 have h2 : 2 ^ bl a ≤ 2 ^ (bl a / 2 + 1 + (bl a / 2 + 1)) := Nat.pow_le_pow_right (by omega) (by omega)
 rw [Nat.pow_add] at h2
 generalize 2 ^ (bl a / 2 + 1) = x at *
 have : x * x ≤ (x + 1) * (x + 1) := Nat.mul_le_mul (by omega) (by omega)
 omega
def IsRt (a r : Nat) : Prop := r * r ≤ a ∧ a < (r + 1) * (r + 1)
theorem IsRt.uniq {a r s : Nat} (h : IsRt a r) (h' : IsRt a s) : r = s := by
 have key : ∀ {r s : Nat}, r * r ≤ a → a < (s + 1) * (s + 1) → r ≤ s := fun {r s} h1 h2 => by
   rcases Nat.lt_or_ge s r with h | h
   · have := Nat.mul_le_mul (show s + 1 ≤ r from h) (show s + 1 ≤ r from h)
     omega
   · exact h
 exact Nat.le_antisymm (key h.1 h'.2) (key h'.1 h.2)
theorem IsRt.le {a r : Nat} (h : IsRt a r) : r ≤ a := by
 rcases Nat.eq_zero_or_pos r with h0 | h0
 · omega
 · have := Nat.mul_le_mul h0 (Nat.le_refl r)
   have := h.1
   omega
set_option maxRecDepth 100000 in
set_option maxHeartbeats 8000000 in
theorem rpow1_any (va : Value) (a : Nat) (w : World) (ha : IsN w va a) (hla : Sz a 100000) :
   Calls Tryz.prog 205 #[va, .int .i64 1] w fun e w' => ∃ v', e = .returned v' ∧ IsN w' v' (a) ∧ Below w.heap.size w w' := by
 have hO := fun w => of_any 1 (by unfold W64; omega) w
 rw [show ((1 : Nat) : Int) = 1 from rfl] at hO
 have hM1 := fun u v w hu hv => mul_any u v 1 a w hu hv (Sz.one.fin (by omega)) (hla.fin (by omega))
 rw [Nat.one_mul] at hM1
 go_enter Tryz.func205, Tryz.ntmps205
 go_wp2_with fail
 refine (hO _).mono ?_
 rintro e w1 ⟨v5, rfl, h5, b1⟩
 replace ha := ha.below b1
 go_wp2_with fail
 go_loopw [0, 1, 5] (fun aV kV oV wr => ((kV = .int .i64 1 ∧ IsN wr aV a ∧ IsN wr oV 1) ∨ (kV = .int .i64 0 ∧ IsN wr oV a)) ∧ Below w.heap.size w wr) (fun _ kV _ _ => (intOf kV).toNat)
 case atStart => exact ⟨.inl ⟨rfl, ha, h5⟩, b1⟩
 case round =>
   clear ha h5 b1 hla
   obtain ⟨⟨rfl, ha, ho⟩ | ⟨rfl, ho⟩, hB⟩ := hrel
   · go_wp2_with fail
     refine (hM1 _ _ _ ho ha).mono ?_
     rintro e w2 ⟨v6, rfl, h6, b2⟩
     replace hB := hB.trans (b2.mono hB.size)
     go_wp2
     exact ⟨⟨.inr ⟨rfl, h6⟩, hB⟩, by simp [intOf]⟩
   · go_wp2
     go_ret
     exact ⟨_, rfl, ho, hB⟩
set_option maxRecDepth 100000 in
set_option maxHeartbeats 8000000 in
theorem rpow2_any (va : Value) (a : Nat) (w : World) (ha : IsN w va a) (hla : Sz a 100000) :
   Calls Tryz.prog 205 #[va, .int .i64 2] w fun e w' => ∃ v', e = .returned v' ∧ IsN w' v' (a * a) ∧ Below w.heap.size w w' := by
 have hO := fun w => of_any 1 (by unfold W64; omega) w
 rw [show ((1 : Nat) : Int) = 1 from rfl] at hO
 have hM1 := fun u v w hu hv => mul_any u v 1 (a * a) w hu hv (Sz.one.fin (by omega)) ((hla.mul hla).fin (by omega))
 rw [Nat.one_mul] at hM1
 have hM2 := fun u v w hu hv => mul_any u v a a w hu hv (hla.fin (by omega)) (hla.fin (by omega))
 go_enter Tryz.func205, Tryz.ntmps205
 go_wp2_with fail
 refine (hO _).mono ?_
 rintro e w1 ⟨v5, rfl, h5, b1⟩
 replace ha := ha.below b1
 go_wp2_with fail
 go_loopw [0, 1, 5] (fun aV kV oV wr => ((kV = .int .i64 2 ∧ IsN wr aV a ∧ IsN wr oV 1) ∨ (kV = .int .i64 1 ∧ IsN wr aV (a * a) ∧ IsN wr oV 1) ∨ (kV = .int .i64 0 ∧ IsN wr oV (a * a))) ∧ Below w.heap.size w wr) (fun _ kV _ _ => (intOf kV).toNat)
 case atStart => exact ⟨.inl ⟨rfl, ha, h5⟩, b1⟩
 case round =>
   clear ha h5 b1 hla
   obtain ⟨⟨rfl, ha, ho⟩ | ⟨rfl, ha, ho⟩ | ⟨rfl, ho⟩, hB⟩ := hrel
   · go_wp2_with fail
     refine (hM2 _ _ _ ha ha).mono ?_
     rintro e w2 ⟨v6, rfl, h6, b2⟩
     replace ho := ho.below b2
     replace hB := hB.trans (b2.mono hB.size)
     go_wp2
     exact ⟨⟨.inr (.inl ⟨rfl, h6, ho⟩), hB⟩, by simp [intOf]⟩
   · go_wp2_with fail
     refine (hM1 _ _ _ ho ha).mono ?_
     rintro e w2 ⟨v6, rfl, h6, b2⟩
     replace hB := hB.trans (b2.mono hB.size)
     go_wp2
     exact ⟨⟨.inr (.inr ⟨rfl, h6⟩), hB⟩, by simp [intOf]⟩
   · go_wp2
     go_ret
     exact ⟨_, rfl, ho, hB⟩
set_option maxRecDepth 100000 in
set_option maxHeartbeats 8000000 in
theorem rstep_any (vx : Value) (A : Option Addr) (L C x a X2 X3 : Nat) (w : World) (hx : IsN w vx x) (ha : IsN w (.slice A L C) a) (h2 : Blk w X2 28 #[.slice A L C]) (h3 : Blk w X3 3 #[.int .i64 2]) (x0 : 0 < x) (sx : Sz x 20000) (sa : Sz a 20000) :
   Calls Tryz.prog 204 #[vx, .pointer (some ⟨X2, 0, none⟩), .pointer (some ⟨X3, 0, none⟩)] w fun e w' => ∃ v', e = .returned v' ∧ IsN w' v' ((x + a / x) / 2) ∧ Below w.heap.size w w' := by
 have hP := fun w h => rpow1_any vx x w h (sx.more (by omega))
 have hD := fun v w h h' => dm_any (.slice A L C) v a x x0 w h h' (sa.fin (by omega))
 have hO1 := fun w => of_any 1 (by unfold W64; omega) w
 rw [show ((1 : Nat) : Int) = 1 from rfl] at hO1
 have hO2 := fun w => of_any 2 (by unfold W64; omega) w
 rw [show ((2 : Nat) : Int) = 2 from rfl] at hO2
 have hM := fun u w h h' => mul_any u vx 1 x w h h' (Sz.one.fin (by omega)) (sx.fin (by omega))
 rw [Nat.one_mul] at hM
 have sq : Sz (a / x) 20000 := sa.le (Nat.div_le_self a x)
 have hA := fun u v w h h' => add_any u v x (a / x) w h h' (sx.fin (by omega)) (sq.fin (by omega))
 have hD2 := fun u v w h h' => dm_any u v (x + a / x) 2 (by omega) w h h' ((sx.add sq).fin (by omega))
 have hB := Below.refl w.heap.size w
 have c0 := h2.q1
 have c1 := h3.q1
 go_enter Tryz.func204, Tryz.ntmps204
 go_upto_region 1 with fail
 replace hB := hB.drew
 replace hx := hx.below (bdrew _)
 replace ha := ha.below (bdrew _)
 replace h2 := h2.drew
 replace h3 := h3.drew
 clear c0 c1
 refine wp_region_noPanic ?_
 refine wp_region_held_drew (S := fun w' => w'.cell? ⟨X2, 0, none⟩ = some (.slice A L C) ∧ w'.cell? ⟨X3, 0, none⟩ = some (.int .i64 2)) (by kernel_rfl) ?_ (fun hHeld => ?_)
 · exact ⟨h2.cell 0, h3.cell 0⟩
 obtain ⟨wd1_1, hwd⟩ : ∃ q, q = w.drew := ⟨_, rfl⟩
 rw [← hwd] at hB hx ha h2 h3 hHeld ⊢
 clear hwd
 refine tkH 0 rfl (v := ?v1) ?h1 ?r1
 case h1 => intro w hSw; (try dsimp only at hSw); go_simp; try (with_reducible rfl)
 refine tkH 1 rfl (v := ?v2) ?h2 ?r2
 case h2 => intro w hSw; (try dsimp only at hSw); go_simp; try (with_reducible rfl)
 refine tkH 2 rfl (v := ?v3) ?h3 ?r3
 case h3 => intro w hSw; (try dsimp only at hSw); go_simp; try (with_reducible rfl)
 refine tkH 3 rfl (v := ?v4) ?h4 ?r4
 case h4 => intro w hSw; (try dsimp only at hSw); go_simp; try (with_reducible rfl)
 try simp only [Act.put, lay1, lay2, lay3, lay4, lay5, lay6]
 refine rd1 4 rfl fun K hK => ?_
 go_simp
 refine (hP _ hx).mono ?_
 rintro e u1_1 ⟨v1, rfl, h1, b1_1⟩
 replace hx := hx.below b1_1
 replace ha := ha.below b1_1
 replace h2 := h2.below b1_1 h2.lt
 replace h3 := h3.below b1_1 h3.lt
 replace hB := hB.trans (b1_1.mono hB.size)
 go_wp2_with fail
 refine hK.out _ _ ?_ (fun hHeld => ?_)
 · exact ⟨h2.cell 0, h3.cell 0⟩
 clear hK K
 try simp only [Act.put, lay1, lay2, lay3, lay4, lay5, lay6]
 refine rd1 5 rfl fun K hK => ?_
 go_simp
 refine (hD _ _ ha h1).mono ?_
 rintro e u1_2 ⟨q1, r1, rfl, hq, -, -, b1_2⟩
 replace hx := hx.below b1_2
 replace ha := ha.below b1_2
 replace h2 := h2.below b1_2 h2.lt
 replace h3 := h3.below b1_2 h3.lt
 replace h1 := h1.below b1_2
 replace hB := hB.trans (b1_2.mono hB.size)
 go_wp2_with fail
 refine hK.out _ _ ?_ (fun hHeld => ?_)
 · exact ⟨h2.cell 0, h3.cell 0⟩
 clear hK K
 refine tkH 6 rfl (v := ?v5) ?h5 ?r5
 case h5 => intro w hSw; (try dsimp only at hSw); go_simp; try (with_reducible rfl)
 refine tkH 7 rfl (v := ?v6) ?h6 ?r6
 case h6 => intro w hSw; (try dsimp only at hSw); go_simp; try (with_reducible rfl)
 refine tkH 8 rfl (v := ?v7) ?h7 ?r7
 case h7 => intro w hSw; (try dsimp only at hSw); go_simp; try (with_reducible rfl)
 refine tkH 9 rfl (v := ?v8) ?h8 ?r8
 case h8 => intro w hSw; (try dsimp only at hSw); go_simp; try (with_reducible rfl)
 refine tkH 10 rfl (v := ?v9) ?h9 ?r9
 case h9 => intro w hSw; (try dsimp only at hSw); go_simp; try (with_reducible rfl)
 refine tkH 11 rfl (v := ?v10) ?h10 ?r10
 case h10 => intro w hSw; (try dsimp only at hSw); go_simp; try (with_reducible rfl)
 refine tkH 12 rfl (v := ?v11) ?h11 ?r11
 case h11 => intro w hSw; (try dsimp only at hSw); go_simp; try (with_reducible rfl)
 try simp only [Act.put, lay1, lay2, lay3, lay4, lay5, lay6]
 try dsimp only
 try simp only [Act.put, lay1, lay2, lay3, lay4, lay5, lay6]
 refine wpAnyH_done (by kernel_rfl) ?_ _
 refine NoPanic.normal ?_
 skip
 have c2 := h2.q1
 have c3 := h3.q1
 go_wp2_with fail
 refine (hO1 _).mono ?_
 rintro e w4 ⟨v4, rfl, h4, b4⟩
 replace hx := hx.below b4
 replace ha := ha.below b4
 replace h2 := h2.below b4 h2.lt
 replace h3 := h3.below b4 h3.lt
 replace hq := hq.below b4
 replace hB := hB.trans (b4.mono hB.size)
 clear c2 c3
 have c4 := h2.q1
 have c5 := h3.q1
 go_wp2_with fail
 refine (hM _ _ h4 hx).mono ?_
 rintro e w6 ⟨v5, rfl, h5, b6⟩
 replace hx := hx.below b6
 replace ha := ha.below b6
 replace h2 := h2.below b6 h2.lt
 replace h3 := h3.below b6 h3.lt
 replace hq := hq.below b6
 replace h4 := h4.below b6
 replace hB := hB.trans (b6.mono hB.size)
 clear c4 c5
 have c6 := h2.q1
 have c7 := h3.q1
 go_wp2_with fail
 refine (hA _ _ _ h5 hq).mono ?_
 rintro e w8 ⟨v6, rfl, h6, b8⟩
 replace hx := hx.below b8
 replace ha := ha.below b8
 replace h2 := h2.below b8 h2.lt
 replace h3 := h3.below b8 h3.lt
 replace hq := hq.below b8
 replace h5 := h5.below b8
 replace hB := hB.trans (b8.mono hB.size)
 clear c6 c7
 have c8 := h2.q1
 have c9 := h3.q1
 go_wp2_with fail
 refine (hO2 _).mono ?_
 rintro e w10 ⟨v7, rfl, h7, b10⟩
 replace hx := hx.below b10
 replace ha := ha.below b10
 replace h2 := h2.below b10 h2.lt
 replace h3 := h3.below b10 h3.lt
 replace h6 := h6.below b10
 replace hB := hB.trans (b10.mono hB.size)
 clear c8 c9
 have c10 := h2.q1
 have c11 := h3.q1
 go_wp2_with fail
 refine (hD2 _ _ _ h6 h7).mono ?_
 rintro e w12 ⟨q8, r8, rfl, h8, -, -, b12⟩
 replace hx := hx.below b12
 replace ha := ha.below b12
 replace h2 := h2.below b12 h2.lt
 replace h3 := h3.below b12 h3.lt
 replace h6 := h6.below b12
 replace h7 := h7.below b12
 replace hB := hB.trans (b12.mono hB.size)
 clear c10 c11
 have c12 := h2.q1
 have c13 := h3.q1
 go_wp2
 go_ret
 exact ⟨_, rfl, h8, hB⟩
set_option maxRecDepth 100000 in
set_option maxHeartbeats 8000000 in
theorem root_any (va : Value) (a : Nat) (w : World) (ha : IsN w va a) (sa : Sz a 600) :
   Calls Tryz.prog 151 #[va, .int .i64 2] w fun e w' => ∃ r v', e = .returned (.tuple #[v', .int .i64 0]) ∧ IsN w' v' r ∧ IsRt a r ∧ Below w.heap.size w w' := by
 have hE : ∀ w : World, Calls Tryz.prog 203 #[.int .i64 2] w fun e w' => e = .returned (.bool true) ∧ w = w' := fun w => by
   go_enter Tryz.func203, Tryz.ntmps203
   go_wp2
   go_ret
   exact ⟨rfl, rfl⟩
 obtain ⟨A, L, C, rfl, ha⟩ := ha.opn
 obtain ⟨L', hL⟩ : ∃ n, n = (limbs a).length := ⟨_, rfl⟩
 have hLL : L = L' := by
   obtain ⟨A', c, e, _⟩ := ha
   injection e with _ e2
   omega
 subst hLL
 rcases Nat.eq_zero_or_pos a with h0 | h0
 · subst h0
   rw [limbs_zero] at hL
   have hL0 : L = 0 := hL
   have hl1 : ((L : Int) == 0) = true := by simp [hL0]
   have hl2 : decide ((L : Int) = 0) = true := decide_eq_true (by omega)
   clear hL hL0
   obtain ⟨g, hg⟩ : ∃ g, g = w.heap.size := ⟨_, rfl⟩
   obtain ⟨Y0, eY0, h2, bY0⟩ := box1 w 28 #[.slice A L C]
   have zY0 : Y0.heap.size = g + 1 := by rw [eY0, World.size_alloc, ← hg]
   rw [← hg] at h2
   replace ha := ha.below bY0
   have hB := bY0
   obtain ⟨Y1, eY1, h3, bY1⟩ := box1 Y0 3 #[.int .i64 2]
   have zY1 : Y1.heap.size = g + 1 + 1 := by rw [eY1, World.size_alloc, zY0]
   rw [zY0] at h3
   replace h2 := h2.below bY1 h2.lt
   replace ha := ha.below bY1
   replace hB := hB.trans (bY1.mono hB.size)
   have hgw : w.heap.size ≤ g := by omega
   have EY := Lib.hid (And.intro hg (And.intro eY0 eY1))
   clear hg eY0 zY0 eY1 zY1
   have c0 := h2.q1
   have c1 := h3.q1
   go_enter Tryz.func151, Tryz.ntmps151
   go_wp2_with fail
   rw [← EY.out.2.1, ← EY.out.2.2, ← EY.out.1]
   refine (hE _).mono ?_
   rintro e w2 ⟨rfl, rfl⟩
   go_wp2
   exact bodyPost_ret (v := .tuple #[.slice none 0 0, .int .i64 0]) (by simp [results, Tryz.results151, go_sem]) rfl ⟨0, _, rfl, IsN.zero _, ⟨by omega, by omega⟩, hB⟩
 have hLp : L ≠ 0 := fun e => by
   rw [hL] at e
   have := List.eq_nil_of_length_eq_zero e
   have h1 := num_limbs a
   rw [this] at h1
   simp [num] at h1; omega
 clear hL
 have hl1 : ((L : Int) == 0) = false := by simpa using hLp
 have hl2 : decide ((L : Int) = 0) = false := decide_eq_false (by omega)
 have hO := fun w => of_any 1 (by unfold W64; omega) w
 rw [show ((1 : Nat) : Int) = 1 from rfl] at hO
 have hBi := fun w h => bits_any (.slice A L C) a w h (sa.fin (by omega))
 have hbl := sa.bl
 have hn := newton_start a
 obtain ⟨n, en⟩ : ∃ n, n = bl a / 2 + 1 := ⟨_, rfl⟩
 rw [← en] at hn
 have hS := fun v w h => dshl_any v 1 n (by omega) w h (Sz.one.fin (by omega))
 rw [Nat.one_mul] at hS
 obtain ⟨m, em⟩ : ∃ m, m = n - 1 := ⟨_, rfl⟩
 have q1 : ((bl a : Nat) : Int) / 2 = (m : Int) := by omega
 have q2 : ((bl a : Nat) : Int).tdiv 2 = (m : Int) := by rw [Int.tdiv_eq_ediv_of_nonneg (by omega)]; exact q1
 have q8 : IntKind.i64.wrap (m : Int) = (m : Int) := by rw [IntKind.wrap_i64]; omega
 have q3 : IntKind.i64.wrap (((bl a : Nat) : Int).tdiv 2) = (m : Int) := by rw [q2, q8]
 have q5 : IntKind.i64.wrap (((bl a : Nat) : Int) / 2) = (m : Int) := by rw [q1, q8]
 have q6 : (m : Int) + 1 = (n : Int) := by omega
 have q7 : IntKind.i64.wrap ((m : Int) + 1) = (n : Int) := by rw [q6, IntKind.wrap_i64]; omega
 have sx0 : Sz (2 ^ n) 20000 := (Sz.two_pow n).more (by omega)
 have hRt := fun (vx : Value) (x X2 X3 : Nat) (w : World) (h1 : IsN w vx x) (h2 : IsN w (.slice A L C) a) (h3 : Blk w X2 28 #[.slice A L C]) (h4 : Blk w X3 3 #[.int .i64 2]) (h5 : 0 < x) (h6 : Sz x 20000) => rstep_any vx A L C x a X2 X3 w h1 h2 h3 h4 h5 h6 (sa.more (by omega))
 have hCm := fun u v x y w h h' => cmp_any u v x y w h h'
 have hLn := Lib.hid hLp
 clear hbl en em hLp q6
 obtain ⟨g, hg⟩ : ∃ g, g = w.heap.size := ⟨_, rfl⟩
 obtain ⟨Y0, eY0, h2, bY0⟩ := box1 w 28 #[.slice A L C]
 have zY0 : Y0.heap.size = g + 1 := by rw [eY0, World.size_alloc, ← hg]
 rw [← hg] at h2
 replace ha := ha.below bY0
 have hB := bY0
 obtain ⟨Y1, eY1, h3, bY1⟩ := box1 Y0 3 #[.int .i64 2]
 have zY1 : Y1.heap.size = g + 1 + 1 := by rw [eY1, World.size_alloc, zY0]
 rw [zY0] at h3
 replace h2 := h2.below bY1 h2.lt
 replace ha := ha.below bY1
 replace hB := hB.trans (bY1.mono hB.size)
 have hgw : w.heap.size ≤ g := by omega
 have EY := Lib.hid (And.intro hg (And.intro eY0 eY1))
 clear hg eY0 zY0 eY1 zY1
 have c0 := h2.q1
 have c1 := h3.q1
 go_enter Tryz.func151, Tryz.ntmps151
 go_wp2_with fail
 rw [← EY.out.2.1, ← EY.out.2.2, ← EY.out.1]
 refine (hE _).mono ?_
 rintro e w2 ⟨rfl, rfl⟩
 go_upto_region 6 with fail
 replace hB := hB.drew
 replace ha := ha.below (bdrew _)
 replace h2 := h2.drew
 replace h3 := h3.drew
 clear c0 c1
 refine wp_region_noPanic ?_
 refine wp_region_held_drew (S := fun w' => w'.cell? ⟨g, 0, none⟩ = some (.slice A L C) ∧ w'.cell? ⟨g + 1, 0, none⟩ = some (.int .i64 2)) (by kernel_rfl) ?_ (fun hHeld => ?_)
 · exact ⟨h2.cell 0, h3.cell 0⟩
 obtain ⟨wd6_1, hwd⟩ : ∃ q, q = Y1.drew := ⟨_, rfl⟩
 rw [← hwd] at hB ha h2 h3 hHeld ⊢
 clear hwd
 refine tkH 1 rfl (v := ?v12) ?h12 ?r12
 case h12 => intro w hSw; (try dsimp only at hSw); go_simp; try (with_reducible rfl)
 refine tkH 3 rfl (v := ?v13) ?h13 ?r13
 case h13 => intro w hSw; (try dsimp only at hSw); go_simp; try (with_reducible rfl)
 try simp only [Act.put, lay1, lay2, lay3, lay4, lay5, lay6]
 refine rd1 0 rfl fun K hK => ?_
 go_simp
 refine (hO _).mono ?_
 rintro e u6_1 ⟨v7, rfl, h7, b6_1⟩
 replace ha := ha.below b6_1
 replace h2 := h2.below b6_1 h2.lt
 replace h3 := h3.below b6_1 h3.lt
 replace hB := hB.trans (b6_1.mono hB.size)
 go_wp2_with fail
 refine hK.out _ _ ?_ (fun hHeld => ?_)
 · exact ⟨h2.cell 0, h3.cell 0⟩
 clear hK K
 try simp only [Act.put, lay1, lay2, lay3, lay4, lay5, lay6]
 refine rd1 2 rfl fun K hK => ?_
 go_simp
 refine (hBi _ ha).mono ?_
 rintro e u6_2 ⟨rfl, rfl⟩
 go_wp2_with fail
 refine hK.out _ _ ?_ (fun hHeld => ?_)
 · exact ⟨h2.cell 0, h3.cell 0⟩
 clear hK K
 refine tkH 4 rfl (v := ?v14) ?h14 ?r14
 case h14 => intro w hSw; (try dsimp only at hSw); go_simp; try (with_reducible rfl)
 refine tkH 5 rfl (v := ?v15) ?h15 ?r15
 case h15 => intro w hSw; (try dsimp only at hSw); go_simp; try (with_reducible rfl)
 try simp only [Act.put, lay1, lay2, lay3, lay4, lay5, lay6]
 refine rd1 6 rfl fun K hK => ?_
 go_simp
 refine (hS _ _ h7).mono ?_
 rintro e u6_3 ⟨v8, rfl, h8, b6_3⟩
 replace ha := ha.below b6_3
 replace h2 := h2.below b6_3 h2.lt
 replace h3 := h3.below b6_3 h3.lt
 replace h7 := h7.below b6_3
 replace hB := hB.trans (b6_3.mono hB.size)
 go_wp2_with fail
 refine hK.out _ _ ?_ (fun hHeld => ?_)
 · exact ⟨h2.cell 0, h3.cell 0⟩
 clear hK K
 refine tkH 7 rfl (v := ?v16) ?h16 ?r16
 case h16 => intro w hSw; (try dsimp only at hSw); go_simp; try (with_reducible rfl)
 refine tkH 8 rfl (v := ?v17) ?h17 ?r17
 case h17 => intro w hSw; (try dsimp only at hSw); go_simp; try (with_reducible rfl)
 refine tkH 9 rfl (v := ?v18) ?h18 ?r18
 case h18 => intro w hSw; (try dsimp only at hSw); go_simp; try (with_reducible rfl)
 refine tkH 10 rfl (v := ?v19) ?h19 ?r19
 case h19 => intro w hSw; (try dsimp only at hSw); go_simp; try (with_reducible rfl)
 refine tkH 11 rfl (v := ?v20) ?h20 ?r20
 case h20 => intro w hSw; (try dsimp only at hSw); go_simp; try (with_reducible rfl)
 try simp only [Act.put, lay1, lay2, lay3, lay4, lay5, lay6]
 try dsimp only
 try simp only [Act.put, lay1, lay2, lay3, lay4, lay5, lay6]
 refine wpAnyH_done (by kernel_rfl) ?_ _
 refine NoPanic.normal ?_
 skip
 have c2 := h2.q1
 have c3 := h3.q1
 have p0 : 0 < 2 ^ n := Nat.pow_pos (by omega)
 go_wp2_with fail
 refine (hRt _ _ _ _ _ h8 ha h2 h3 p0 sx0).mono ?_
 rintro e w5 ⟨v9, rfl, h9, b5⟩
 replace ha := ha.below b5
 replace h2 := h2.below b5 h2.lt
 replace h3 := h3.below b5 h3.lt
 replace h8 := h8.below b5
 replace hB := hB.trans (b5.mono hB.size)
 clear c2 c3
 have c4 := h2.q1
 have c5 := h3.q1
 go_wp2_with fail
 go_loopw [7, 9] (fun xV yV wr => ∃ x, IsN wr xV x ∧ IsN wr yV ((x + a / x) / 2) ∧ 0 < x ∧ Sz x 20000 ∧ a < (x + 1) * (x + 1) ∧ IsN wr (.slice A L C) a ∧ Blk wr g 28 #[.slice A L C] ∧ Blk wr (g + 1) 3 #[.int .i64 2] ∧ Below w.heap.size w wr) (fun xV _ wr => numAt wr xV)
 case atStart => exact ⟨2 ^ n, h8, h9, p0, sx0, hn, ha, h2, h3, hB⟩
 case round =>
   clear h8 h9 ha h2 h3 hB sx0 hn p0
   obtain ⟨x, h8, h9, p0, sx, hn, ha, h2, h3, hB⟩ := hrel
   have hm := numAt_eq h8
   have up := newton_up (a := a) p0
   have hle := newton_end (a := a) p0
   have hdl := Nat.div_le_self a x
   generalize hy : (x + a / x) / 2 = y at *
   have hC := hCm _ _ y x wr h9 h8
   by_cases hlt : y < x
   · have hc : cmpI y x = -1 := by unfold cmpI; rw [if_pos (by omega)]
     rw [hc] at hC
     go_wp2_with fail
     refine hC.mono ?_
     rintro e w5 ⟨rfl, b5⟩
     replace h9 := h9.below b5
     replace ha := ha.below b5
     replace h2 := h2.below b5 h2.lt
     replace h3 := h3.below b5 h3.lt
     replace hB := hB.trans (b5.mono hB.size)
     have y0 : 0 < y := by
       rcases Nat.eq_zero_or_pos y with h | h
       · subst h; simp at up; omega
       · exact h
     have sy : Sz y 20000 := sx.le (by omega)
     go_wp2_with fail
     refine (hRt _ _ _ _ _ h9 ha h2 h3 y0 sy).mono ?_
     rintro e w6 ⟨v9, rfl, h10, b6⟩
     replace h9 := h9.below b6
     replace ha := ha.below b6
     replace h2 := h2.below b6 h2.lt
     replace h3 := h3.below b6 h3.lt
     replace hB := hB.trans (b6.mono hB.size)
     have hm2 := numAt_eq h9
     go_wp2
     exact ⟨⟨y, h9, h10, y0, sy, up, ha, h2, h3, hB⟩, by simp only [hm, hm2]; simp [hlt]⟩
   · have hc : 0 ≤ cmpI y x := by unfold cmpI; (repeat' split) <;> omega
     have hr := hle (by omega)
     generalize cmpI y x = cm at *
     have hc2 : decide (cm < 0) = false := decide_eq_false (by omega)
     go_wp2_with fail
     refine hC.mono ?_
     rintro e w5 ⟨rfl, b5⟩
     replace h8 := h8.below b5
     replace hB := hB.trans (b5.mono hB.size)
     go_wp2
     exact bodyPost_ret (v := .tuple #[u7, .int .i64 0]) (by simp [results, Tryz.results151, go_sem]) rfl ⟨x, _, rfl, h8, ⟨hr, hn⟩, hB⟩
def rtUp (a r : Nat) : Nat := if r * r < a then r + 1 else r
set_option maxRecDepth 100000 in
set_option maxHeartbeats 8000000 in
theorem rootup_less (va : Value) (a : Nat) (w : World) (ha : IsN w va a) (sa : Sz a 600) (hlt : ∀ r, IsRt a r → r * r < a) :
   Calls Tryz.prog 152 #[va, .int .i64 2] w fun e w' => ∃ r v', e = .returned (.tuple #[v', .int .i64 0]) ∧ IsN w' v' (rtUp a r) ∧ IsRt a r ∧ Below w.heap.size w w' := by
 have hR := fun w h => root_any va a w h sa
 have hO := fun w => of_any 1 (by unfold W64; omega) w
 rw [show ((1 : Nat) : Int) = 1 from rfl] at hO
 go_enter Tryz.func152, Tryz.ntmps152
 go_wp2_with fail
 refine (hR _ ha).mono ?_
 rintro e w1 ⟨r, v1, rfl, h1, hrt, b1⟩
 replace ha := ha.below b1
 have hB := b1
 have hle := hrt.le
 have sr : Sz r 600 := sa.le hle
 have hP := fun v w h => rpow2_any v r w h (sr.more (by omega))
 have hC := fun u v w h h' => cmp_any u v (r * r) a w h h'
 have hx := hlt r hrt
 have hc : cmpI ((r * r : Nat) : Int) (a : Int) = -1 := by unfold cmpI; rw [if_pos (by omega)]
 rw [hc] at hC
 go_wp2_with fail
 refine (hP _ _ h1).mono ?_
 rintro e w3 ⟨v2, rfl, h2, b3⟩
 replace ha := ha.below b3
 replace h1 := h1.below b3
 replace hB := hB.trans (b3.mono hB.size)
 go_wp2_with fail
 refine (hC _ _ _ h2 ha).mono ?_
 rintro e w5 ⟨rfl, b5⟩
 replace ha := ha.below b5
 replace h1 := h1.below b5
 replace h2 := h2.below b5
 replace hB := hB.trans (b5.mono hB.size)
 go_wp2_with fail
 refine (hO _).mono ?_
 rintro e w7 ⟨v3, rfl, h3, b7⟩
 replace ha := ha.below b7
 replace h1 := h1.below b7
 replace h2 := h2.below b7
 replace hB := hB.trans (b7.mono hB.size)
 have hA := fun u v w h h' => add_any u v r 1 w h h' (sr.fin (by omega)) (Sz.one.fin (by omega))
 go_wp2_with fail
 refine (hA _ _ _ h1 h3).mono ?_
 rintro e w9 ⟨v4, rfl, h4, b9⟩
 replace ha := ha.below b9
 replace h1 := h1.below b9
 replace h2 := h2.below b9
 replace h3 := h3.below b9
 replace hB := hB.trans (b9.mono hB.size)
 go_wp2
 exact bodyPost_ret (v := .tuple #[v4, .int .i64 0]) (by simp [results, Tryz.results152, go_sem]) rfl ⟨r, _, rfl, by unfold rtUp; rw [if_pos hx]; exact h4, hrt, hB⟩
set_option maxRecDepth 100000 in
set_option maxHeartbeats 8000000 in
theorem rootup_same (va : Value) (a : Nat) (w : World) (ha : IsN w va a) (sa : Sz a 600) (hge : ∀ r, IsRt a r → ¬ r * r < a) :
   Calls Tryz.prog 152 #[va, .int .i64 2] w fun e w' => ∃ r v', e = .returned (.tuple #[v', .int .i64 0]) ∧ IsN w' v' (rtUp a r) ∧ IsRt a r ∧ Below w.heap.size w w' := by
 have hR := fun w h => root_any va a w h sa
 have hO := fun w => of_any 1 (by unfold W64; omega) w
 rw [show ((1 : Nat) : Int) = 1 from rfl] at hO
 go_enter Tryz.func152, Tryz.ntmps152
 go_wp2_with fail
 refine (hR _ ha).mono ?_
 rintro e w1 ⟨r, v1, rfl, h1, hrt, b1⟩
 replace ha := ha.below b1
 have hB := b1
 have hle := hrt.le
 have sr : Sz r 600 := sa.le hle
 have hP := fun v w h => rpow2_any v r w h (sr.more (by omega))
 have hC := fun u v w h h' => cmp_any u v (r * r) a w h h'
 have hx := hge r hrt
 have hc : cmpI ((r * r : Nat) : Int) (a : Int) = 0 := by have := hrt.1; unfold cmpI; rw [if_neg (by omega), if_neg (by omega)]
 rw [hc] at hC
 go_wp2_with fail
 refine (hP _ _ h1).mono ?_
 rintro e w3 ⟨v2, rfl, h2, b3⟩
 replace ha := ha.below b3
 replace h1 := h1.below b3
 replace hB := hB.trans (b3.mono hB.size)
 go_wp2_with fail
 refine (hC _ _ _ h2 ha).mono ?_
 rintro e w5 ⟨rfl, b5⟩
 replace ha := ha.below b5
 replace h1 := h1.below b5
 replace h2 := h2.below b5
 replace hB := hB.trans (b5.mono hB.size)
 go_wp2
 exact bodyPost_ret (v := .tuple #[v1, .int .i64 0]) (by simp [results, Tryz.results152, go_sem]) rfl ⟨r, _, rfl, by unfold rtUp; rw [if_neg hx]; exact h1, hrt, hB⟩
theorem rootup_any (va : Value) (a : Nat) (w : World) (ha : IsN w va a) (sa : Sz a 600) :
   Calls Tryz.prog 152 #[va, .int .i64 2] w fun e w' => ∃ r v', e = .returned (.tuple #[v', .int .i64 0]) ∧ IsN w' v' (rtUp a r) ∧ IsRt a r ∧ Below w.heap.size w w' := by
 by_cases h : ∃ r, IsRt a r ∧ r * r < a
 · obtain ⟨r, h1, h2⟩ := h
   exact rootup_less va a w ha sa fun s hs => by rw [hs.uniq h1]; exact h2
 · exact rootup_same va a w ha sa fun s hs hlt => h ⟨s, hs, hlt⟩
theorem zN {w : World} {v : Value} {n : Nat} (h : IsN w v n) : IsZ w (.agg #[.bool false, v]) (n : Int) := ⟨v, by rw [decide_eq_false (by omega)], by simpa using h⟩
def flN (a : Rat) : Nat := a.num.natAbs * 2 ^ 120 / a.den
def clN (a : Rat) : Nat := a.num.natAbs * 2 ^ 120 / a.den + if a.num.natAbs * 2 ^ 120 % a.den = 0 then 0 else 1
theorem sz_flN {a : Rat} {k : Nat} (h : BQ a k) : Sz (flN a) (k + 2) := ((h.1.mul (Sz.two_pow 120)).more (by omega)).le (Nat.div_le_self _ _)
theorem sz_clN {a : Rat} {k : Nat} (h : BQ a k) : Sz (clN a) (k + 4) := by
 have h1 : Sz (a.num.natAbs * 2 ^ 120 / a.den + 1) (k + 2 + 1 + 1) := (sz_flN h).add Sz.one
 refine h1.le ?_
 unfold clN; split <;> omega
set_option maxRecDepth 100000 in
set_option maxHeartbeats 8000000 in
theorem psqrt_some (v : Value) (a b : Rat) (w : World) (h : IsS w v a b) (sa : BQ a 500) (sb : BQ b 500) (na : ¬ a.num < 0) (hr : b.num.natAbs * 2 ^ 120 % b.den ≠ 0) :
   Calls Tryz.prog 85 #[v, .int .i64 60] w fun e w' => ∃ r t v', e = .returned (.tuple #[v', .int .i64 0]) ∧ IsS w' v' (mkRat (r : Nat) (2 ^ 60)) (mkRat (rtUp (clN b) t : Nat) (2 ^ 60)) ∧ IsRt (flN a) r ∧ IsRt (clN b) t ∧ Below w.heap.size w w' := by
 obtain ⟨s1, A1, L1, C1, D1, M1, E1, s2, A2, L2, C2, D2, M2, E2, rfl, q1, q2⟩ := h.opn
 obtain rfl : s1 = false := by rw [q1.parts.1]; exact decide_eq_false na
 have hG := fun w => pgrid60 w
 have hU1 := fun w h => pup_any (.agg #[.bool false, .slice A1 L1 C1, .slice D1 M1 E1]) a w h (sa.more (by omega))
 have sxa : Sz (a.num.natAbs * 2 ^ 120) 502 := (sa.1.mul (Sz.two_pow 120)).more (by omega)
 have sxb : Sz (b.num.natAbs * 2 ^ 120) 502 := (sb.1.mul (Sz.two_pow 120)).more (by omega)
 have hD1 := fun u w h h' => dm_any u (.slice D1 M1 E1) (a.num.natAbs * 2 ^ 120) a.den a.den_pos w h h' (sxa.fin (by omega))
 have hU2 := fun w h => pup_any (.agg #[.bool s2, .slice A2 L2 C2, .slice D2 M2 E2]) b w h (sb.more (by omega))
 have hD2 := fun u w h h' => dm_any u (.slice D2 M2 E2) (b.num.natAbs * 2 ^ 120) b.den b.den_pos w h h' (sxb.fin (by omega))
 have hO := fun w => of_any 1 (by unfold W64; omega) w
 rw [show ((1 : Nat) : Int) = 1 from rfl] at hO
 have sza : Sz (a.num.natAbs * 2 ^ 120 / a.den) 510 := (sz_flN sa).more (by omega)
 have szb0 : Sz (b.num.natAbs * 2 ^ 120 / b.den) 510 := (sz_flN sb).more (by omega)
 have HFL := Lib.hid (show flN a = a.num.natAbs * 2 ^ 120 / a.den from rfl)
 have HCL := Lib.hid (show clN b = b.num.natAbs * 2 ^ 120 / b.den + 1 by unfold clN; rw [if_neg hr])
 have szb : Sz (b.num.natAbs * 2 ^ 120 / b.den + 1) 520 := (szb0.add Sz.one).more (by omega)
 have hAd := fun u v w h h' => add_any u v (b.num.natAbs * 2 ^ 120 / b.den) 1 w h h' (szb0.fin (by omega)) (Sz.one.fin (by omega))
 have hRo := fun v w h => root_any v (a.num.natAbs * 2 ^ 120 / a.den) w h (sza.more (by omega))
 have hUp := fun v w h => rootup_any v (b.num.natAbs * 2 ^ 120 / b.den + 1) w h (szb.more (by omega))
 obtain ⟨P, hP⟩ : ∃ P, P = 2 ^ 120 := ⟨_, rfl⟩
 rw [← hP] at hU1 hU2 hD1 hD2 hr sza szb HFL HCL hAd hRo hUp
 clear sa sb sxa sxb szb0 h hP
 generalize a.num.natAbs * P / a.den = fa at *
 generalize b.num.natAbs * P / b.den = fb at *
 generalize b.num.natAbs * P % b.den = rb at *
 generalize a.num.natAbs * P = xa at *
 generalize b.num.natAbs * P = xb at *
 obtain ⟨g, hg⟩ : ∃ g, g = w.heap.size := ⟨_, rfl⟩
 obtain ⟨Y0, eY0, hA, bY0⟩ := box1 w 46 #[.bool false, .slice A1 L1 C1, .slice D1 M1 E1, .bool s2, .slice A2 L2 C2, .slice D2 M2 E2]
 have zY0 : Y0.heap.size = g + 1 := by rw [eY0, World.size_alloc, ← hg]
 rw [← hg] at hA
 replace q1 := q1.below bY0
 replace q2 := q2.below bY0
 have hB := bY0
 obtain ⟨Y1, eY1, hR, bY1⟩ := box1 Y0 46 #[.bool false, .slice none 0 0, .slice none 0 0, .bool false, .slice none 0 0, .slice none 0 0]
 have zY1 : Y1.heap.size = g + 1 + 1 := by rw [eY1, World.size_alloc, zY0]
 rw [zY0] at hR
 replace hA := hA.below bY1 hA.lt
 replace q1 := q1.below bY1
 replace q2 := q2.below bY1
 replace hB := hB.trans (bY1.mono hB.size)
 have hgw : w.heap.size ≤ g := by omega
 have EY := Lib.hid (And.intro hg (And.intro eY0 eY1))
 clear hg eY0 zY0 eY1 zY1
 obtain ⟨c0, c1, c2, c3, c4, c5⟩ := hA.q6
 obtain ⟨c6, c7, c8, c9, c10, c11⟩ := hR.q6
 go_enter Tryz.func85, Tryz.ntmps85
 go_wp2_with fail
 rw [← EY.out.2.1, ← EY.out.2.2, ← EY.out.1]
 refine (hG _).mono ?_
 rintro e w2 ⟨rfl, rfl⟩
 have n1 := q1.parts.2.2
 have n2 := q2.parts.2.2
 go_upto_region 3 with fail
 replace hB := hB.drew
 replace q1 := q1.below (bdrew _)
 replace q2 := q2.below (bdrew _)
 replace hA := hA.drew
 replace hR := hR.drew
 replace n1 := n1.below (bdrew _)
 replace n2 := n2.below (bdrew _)
 clear c0 c1 c2 c3 c4 c5 c6 c7 c8 c9 c10 c11
 refine wp_region_noPanic ?_
 refine wp_region_held_drew (S := fun w' => w'.cell? ⟨g, 0, none⟩ = some (.bool false) ∧ w'.cell? ⟨g, 1, none⟩ = some (.slice A1 L1 C1) ∧ w'.cell? ⟨g, 2, none⟩ = some (.slice D1 M1 E1) ∧ w'.cell? ⟨g, 3, none⟩ = some (.bool s2) ∧ w'.cell? ⟨g, 4, none⟩ = some (.slice A2 L2 C2) ∧ w'.cell? ⟨g, 5, none⟩ = some (.slice D2 M2 E2)) (by kernel_rfl) ?_ (fun hHeld => ?_)
 · exact ⟨hA.cell 0, hA.cell 1, hA.cell 2, hA.cell 3, hA.cell 4, hA.cell 5⟩
 obtain ⟨wd3_1, hwd⟩ : ∃ q, q = Y1.drew := ⟨_, rfl⟩
 rw [← hwd] at hB q1 q2 hA hR n1 n2 hHeld ⊢
 clear hwd
 refine tkH 0 rfl (v := ?v1) ?h1 ?r1
 case h1 => intro w hSw; (try dsimp only at hSw); go_simp; try (with_reducible rfl)
 refine tkH 1 rfl (v := ?v2) ?h2 ?r2
 case h2 => intro w hSw; (try dsimp only at hSw); go_simp; try (with_reducible rfl)
 refine tkH 2 rfl (v := ?v3) ?h3 ?r3
 case h3 => intro w hSw; (try dsimp only at hSw); go_simp; try (with_reducible rfl)
 refine tkH 4 rfl (v := ?v4) ?h4 ?r4
 case h4 => intro w hSw; (try dsimp only at hSw); go_simp; try (with_reducible rfl)
 refine tkH 5 rfl (v := ?v5) ?h5 ?r5
 case h5 => intro w hSw; (try dsimp only at hSw); go_simp; try (with_reducible rfl)
 refine tkH 6 rfl (v := ?v6) ?h6 ?r6
 case h6 => intro w hSw; (try dsimp only at hSw); go_simp; try (with_reducible rfl)
 try simp only [Act.put, lay1, lay2, lay3, lay4, lay5, lay6]
 refine rd1 3 rfl fun K hK => ?_
 go_simp
 refine (hU1 _ q1).mono ?_
 rintro e u3_1 ⟨v3, rfl, n3, b3_1⟩
 replace q1 := q1.below b3_1
 replace q2 := q2.below b3_1
 replace hA := hA.below b3_1 hA.lt
 replace hR := hR.below b3_1 hR.lt
 replace n1 := n1.below b3_1
 replace n2 := n2.below b3_1
 replace hB := hB.trans (b3_1.mono hB.size)
 go_wp2_with fail
 refine hK.out _ _ ?_ (fun hHeld => ?_)
 · exact ⟨hA.cell 0, hA.cell 1, hA.cell 2, hA.cell 3, hA.cell 4, hA.cell 5⟩
 clear hK K
 try simp only [Act.put, lay1, lay2, lay3, lay4, lay5, lay6]
 refine rd1 7 rfl fun K hK => ?_
 go_simp
 refine (hD1 _ _ n3 n1).mono ?_
 rintro e u3_2 ⟨v4, v5, rfl, n4, -, -, b3_2⟩
 replace q1 := q1.below b3_2
 replace q2 := q2.below b3_2
 replace hA := hA.below b3_2 hA.lt
 replace hR := hR.below b3_2 hR.lt
 replace n1 := n1.below b3_2
 replace n2 := n2.below b3_2
 replace n3 := n3.below b3_2
 replace hB := hB.trans (b3_2.mono hB.size)
 go_wp2_with fail
 refine hK.out _ _ ?_ (fun hHeld => ?_)
 · exact ⟨hA.cell 0, hA.cell 1, hA.cell 2, hA.cell 3, hA.cell 4, hA.cell 5⟩
 clear hK K
 refine tkH 8 rfl (v := ?v7) ?h7 ?r7
 case h7 => intro w hSw; (try dsimp only at hSw); go_simp; try (with_reducible rfl)
 refine tkH 9 rfl (v := ?v8) ?h8 ?r8
 case h8 => intro w hSw; (try dsimp only at hSw); go_simp; try (with_reducible rfl)
 refine tkH 10 rfl (v := ?v9) ?h9 ?r9
 case h9 => intro w hSw; (try dsimp only at hSw); go_simp; try (with_reducible rfl)
 refine tkH 11 rfl (v := ?v10) ?h10 ?r10
 case h10 => intro w hSw; (try dsimp only at hSw); go_simp; try (with_reducible rfl)
 refine tkH 12 rfl (v := ?v11) ?h11 ?r11
 case h11 => intro w hSw; (try dsimp only at hSw); go_simp; try (with_reducible rfl)
 refine tkH 13 rfl (v := ?v12) ?h12 ?r12
 case h12 => intro w hSw; (try dsimp only at hSw); go_simp; try (with_reducible rfl)
 refine tkH 14 rfl (v := ?v13) ?h13 ?r13
 case h13 => intro w hSw; (try dsimp only at hSw); go_simp; try (with_reducible rfl)
 try simp only [Act.put, lay1, lay2, lay3, lay4, lay5, lay6]
 try dsimp only
 try simp only [Act.put, lay1, lay2, lay3, lay4, lay5, lay6]
 refine wpAnyH_done (by kernel_rfl) ?_ _
 refine NoPanic.normal ?_
 skip
 obtain ⟨c12, c13, c14, c15, c16, c17⟩ := hA.q6
 obtain ⟨c18, c19, c20, c21, c22, c23⟩ := hR.q6
 go_upto_region 4 with fail
 replace hB := hB.drew
 replace q2 := q2.below (bdrew _)
 replace hA := hA.drew
 replace hR := hR.drew
 replace n2 := n2.below (bdrew _)
 replace n4 := n4.below (bdrew _)
 clear c12 c13 c14 c15 c16 c17 c18 c19 c20 c21 c22 c23
 refine wp_region_noPanic ?_
 refine wp_region_held_drew (S := fun w' => w'.cell? ⟨g, 0, none⟩ = some (.bool false) ∧ w'.cell? ⟨g, 1, none⟩ = some (.slice A1 L1 C1) ∧ w'.cell? ⟨g, 2, none⟩ = some (.slice D1 M1 E1) ∧ w'.cell? ⟨g, 3, none⟩ = some (.bool s2) ∧ w'.cell? ⟨g, 4, none⟩ = some (.slice A2 L2 C2) ∧ w'.cell? ⟨g, 5, none⟩ = some (.slice D2 M2 E2)) (by kernel_rfl) ?_ (fun hHeld => ?_)
 · exact ⟨hA.cell 0, hA.cell 1, hA.cell 2, hA.cell 3, hA.cell 4, hA.cell 5⟩
 obtain ⟨wd4_2, hwd⟩ : ∃ q, q = u3_2.drew := ⟨_, rfl⟩
 rw [← hwd] at hB q2 hA hR n2 n4 hHeld ⊢
 clear hwd
 refine tkH 0 rfl (v := ?v14) ?h14 ?r14
 case h14 => intro w hSw; (try dsimp only at hSw); go_simp; try (with_reducible rfl)
 refine tkH 1 rfl (v := ?v15) ?h15 ?r15
 case h15 => intro w hSw; (try dsimp only at hSw); go_simp; try (with_reducible rfl)
 refine tkH 2 rfl (v := ?v16) ?h16 ?r16
 case h16 => intro w hSw; (try dsimp only at hSw); go_simp; try (with_reducible rfl)
 refine tkH 4 rfl (v := ?v17) ?h17 ?r17
 case h17 => intro w hSw; (try dsimp only at hSw); go_simp; try (with_reducible rfl)
 refine tkH 5 rfl (v := ?v18) ?h18 ?r18
 case h18 => intro w hSw; (try dsimp only at hSw); go_simp; try (with_reducible rfl)
 refine tkH 6 rfl (v := ?v19) ?h19 ?r19
 case h19 => intro w hSw; (try dsimp only at hSw); go_simp; try (with_reducible rfl)
 try simp only [Act.put, lay1, lay2, lay3, lay4, lay5, lay6]
 refine rd1 3 rfl fun K hK => ?_
 go_simp
 refine (hU2 _ q2).mono ?_
 rintro e u4_1 ⟨v6, rfl, n6, b4_1⟩
 replace q2 := q2.below b4_1
 replace hA := hA.below b4_1 hA.lt
 replace hR := hR.below b4_1 hR.lt
 replace n2 := n2.below b4_1
 replace n4 := n4.below b4_1
 replace hB := hB.trans (b4_1.mono hB.size)
 go_wp2_with fail
 refine hK.out _ _ ?_ (fun hHeld => ?_)
 · exact ⟨hA.cell 0, hA.cell 1, hA.cell 2, hA.cell 3, hA.cell 4, hA.cell 5⟩
 clear hK K
 try simp only [Act.put, lay1, lay2, lay3, lay4, lay5, lay6]
 refine rd1 7 rfl fun K hK => ?_
 go_simp
 refine (hD2 _ _ n6 n2).mono ?_
 rintro e u4_2 ⟨v7, v8, rfl, n7, n8, -, b4_2⟩
 replace q2 := q2.below b4_2
 replace hA := hA.below b4_2 hA.lt
 replace hR := hR.below b4_2 hR.lt
 replace n2 := n2.below b4_2
 replace n4 := n4.below b4_2
 replace n6 := n6.below b4_2
 replace hB := hB.trans (b4_2.mono hB.size)
 go_wp2_with fail
 refine hK.out _ _ ?_ (fun hHeld => ?_)
 · exact ⟨hA.cell 0, hA.cell 1, hA.cell 2, hA.cell 3, hA.cell 4, hA.cell 5⟩
 clear hK K
 refine tkH 8 rfl (v := ?v20) ?h20 ?r20
 case h20 => intro w hSw; (try dsimp only at hSw); go_simp; try (with_reducible rfl)
 refine tkH 9 rfl (v := ?v21) ?h21 ?r21
 case h21 => intro w hSw; (try dsimp only at hSw); go_simp; try (with_reducible rfl)
 refine tkH 10 rfl (v := ?v22) ?h22 ?r22
 case h22 => intro w hSw; (try dsimp only at hSw); go_simp; try (with_reducible rfl)
 refine tkH 11 rfl (v := ?v23) ?h23 ?r23
 case h23 => intro w hSw; (try dsimp only at hSw); go_simp; try (with_reducible rfl)
 refine tkH 12 rfl (v := ?v24) ?h24 ?r24
 case h24 => intro w hSw; (try dsimp only at hSw); go_simp; try (with_reducible rfl)
 refine tkH 13 rfl (v := ?v25) ?h25 ?r25
 case h25 => intro w hSw; (try dsimp only at hSw); go_simp; try (with_reducible rfl)
 refine tkH 14 rfl (v := ?v26) ?h26 ?r26
 case h26 => intro w hSw; (try dsimp only at hSw); go_simp; try (with_reducible rfl)
 try simp only [Act.put, lay1, lay2, lay3, lay4, lay5, lay6]
 try dsimp only
 try simp only [Act.put, lay1, lay2, lay3, lay4, lay5, lay6]
 refine wpAnyH_done (by kernel_rfl) ?_ _
 refine NoPanic.normal ?_
 skip
 obtain ⟨c24, c25, c26, c27, c28, c29⟩ := hA.q6
 obtain ⟨c30, c31, c32, c33, c34, c35⟩ := hR.q6
 obtain ⟨A8, L8, C8, rfl, n8⟩ := n8.opn
 have hL8 : L8 = (limbs rb).length := by
   obtain ⟨A', c', e, _⟩ := n8
   injection e with _ e2
 have hL8' : 0 < L8 := by
   rcases Nat.eq_zero_or_pos L8 with h | h
   · rw [h] at hL8
     have h1 := List.eq_nil_of_length_eq_zero hL8.symm
     have h2 := num_limbs rb
     rw [h1] at h2
     exact absurd h2.symm hr
   · exact h
 have l1 : decide ((0 : Int) < (L8 : Int)) = true := decide_eq_true (by omega)
 have l2 : decide (0 < L8) = true := decide_eq_true hL8'
 clear hL8 hL8'
 go_wp2_with fail
 refine (hO _).mono ?_
 rintro e w7 ⟨v9, rfl, n9, b7⟩
 replace hA := hA.below b7 hA.lt
 replace hR := hR.below b7 hR.lt
 replace n4 := n4.below b7
 replace n7 := n7.below b7
 replace hB := hB.trans (b7.mono hB.size)
 clear c24 c25 c26 c27 c28 c29 c30 c31 c32 c33 c34 c35
 obtain ⟨c36, c37, c38, c39, c40, c41⟩ := hA.q6
 obtain ⟨c42, c43, c44, c45, c46, c47⟩ := hR.q6
 go_wp2_with fail
 refine (hAd _ _ _ n7 n9).mono ?_
 rintro e w9 ⟨v10, rfl, n10, b9⟩
 replace hA := hA.below b9 hA.lt
 replace hR := hR.below b9 hR.lt
 replace n4 := n4.below b9
 replace n7 := n7.below b9
 replace n9 := n9.below b9
 replace hB := hB.trans (b9.mono hB.size)
 clear c36 c37 c38 c39 c40 c41 c42 c43 c44 c45 c46 c47
 obtain ⟨c48, c49, c50, c51, c52, c53⟩ := hA.q6
 obtain ⟨c54, c55, c56, c57, c58, c59⟩ := hR.q6
 go_wp2_with fail
 refine (hRo _ _ n4).mono ?_
 rintro e w11 ⟨r, v11, rfl, n11, hr1, b11⟩
 replace hA := hA.below b11 hA.lt
 replace hR := hR.below b11 hR.lt
 replace n4 := n4.below b11
 replace n10 := n10.below b11
 replace hB := hB.trans (b11.mono hB.size)
 clear c48 c49 c50 c51 c52 c53 c54 c55 c56 c57 c58 c59
 obtain ⟨c60, c61, c62, c63, c64, c65⟩ := hA.q6
 obtain ⟨c66, c67, c68, c69, c70, c71⟩ := hR.q6
 obtain ⟨A11, L11, C11, rfl, n11⟩ := n11.opn
 go_wp2_with fail
 refine (hUp _ _ n10).mono ?_
 rintro e w13 ⟨t, v12, rfl, n12, hr2, b13⟩
 replace hA := hA.below b13 hA.lt
 replace hR := hR.below b13 hR.lt
 replace n10 := n10.below b13
 replace n11 := n11.below b13
 replace hB := hB.trans (b13.mono hB.size)
 clear c60 c61 c62 c63 c64 c65 c66 c67 c68 c69 c70 c71
 obtain ⟨c72, c73, c74, c75, c76, c77⟩ := hA.q6
 obtain ⟨c78, c79, c80, c81, c82, c83⟩ := hR.q6
 obtain ⟨A12, L12, C12, rfl, n12⟩ := n12.opn
 have st : Sz (rtUp (fb + 1) t) 700 := by
   have h1 := hr2.le
   have h2 : Sz (t + 1) 700 := ((szb.le h1).add Sz.one).more (by omega)
   refine h2.le ?_
   unfold rtUp; split <;> omega
 have sr : Sz r 700 := (sza.le hr1.le).more (by omega)
 have hBt := fun u v w h h' => pbetween_any u v (r : Int) (rtUp (fb + 1) t : Int) w h h' (by simpa using sr.more (by omega)) (by simpa using st.more (by omega))
 generalize hru : rtUp (fb + 1) t = ru at *
 have HRU := Lib.hid hru
 clear hru st sr
 go_wp2_with fail
 refine (hBt _ _ _ (zN n11) (zN n12)).mono ?_
 rintro e w15 ⟨v13, rfl, h13, b15⟩
 replace hA := hA.below b15 hA.lt
 replace hR := hR.below b15 hR.lt
 replace n11 := n11.below b15
 replace n12 := n12.below b15
 replace hB := hB.trans (b15.mono hB.size)
 clear c72 c73 c74 c75 c76 c77 c78 c79 c80 c81 c82 c83
 obtain ⟨c84, c85, c86, c87, c88, c89⟩ := hA.q6
 obtain ⟨c90, c91, c92, c93, c94, c95⟩ := hR.q6
 obtain ⟨s13, A13, L13, C13, D13, M13, E13, s14, A14, L14, C14, D14, M14, E14, rfl, q13, q14⟩ := h13.opn
 generalize hz1 : mkRat (r : Int) (2 ^ 60) = z1 at *
 generalize hz2 : mkRat (ru : Int) (2 ^ 60) = z2 at *
 have HZ := Lib.hid (And.intro hz1 hz2)
 clear hz1 hz2 hBt
 obtain ⟨p1, p2, p3⟩ := put6 hR (.bool s13) (.slice A13 L13 C13) (.slice D13 M13 E13) (.bool s14) (.slice A14 L14 C14) (.slice D14 M14 E14) (by simp [noU]) hB (by omega)
 have rc0 : World.cell? _ ⟨g + 1, 0, none⟩ = some (.bool false) := hR.cell 0
 have rf0 := hR.frozen 0
 have rc1 : World.cell? _ ⟨g + 1, 1, none⟩ = some (.slice none 0 0) := hR.cell 1
 have rf1 := hR.frozen 1
 have rc2 : World.cell? _ ⟨g + 1, 2, none⟩ = some (.slice none 0 0) := hR.cell 2
 have rf2 := hR.frozen 2
 have rc3 : World.cell? _ ⟨g + 1, 3, none⟩ = some (.bool false) := hR.cell 3
 have rf3 := hR.frozen 3
 have rc4 : World.cell? _ ⟨g + 1, 4, none⟩ = some (.slice none 0 0) := hR.cell 4
 have rf4 := hR.frozen 4
 have rc5 : World.cell? _ ⟨g + 1, 5, none⟩ = some (.slice none 0 0) := hR.cell 5
 have rf5 := hR.frozen 5
 have P := Lib.hid (And.intro (⟨_, _, _, _, _, _, rfl, q13.kept p2, q14.kept p2⟩ : IsS _ _ z1 z2) (And.intro p3 p1.cells6))
 clear p1 p2 p3
 go_wp2_with fail
 obtain ⟨P1, P2, P3, P4, P5, P6, P7, P8⟩ := P.out
 exact bodyPost_ret (v := .tuple #[.agg #[.bool s13, .slice A13 L13 C13, .slice D13 M13 E13, .bool s14, .slice A14 L14 C14, .slice D14 M14 E14], .int .i64 0]) (by simp [results, Tryz.results85, go_sem, P3, P4, P5, P6, P7, P8]) rfl ⟨r, t, _, rfl, by rw [HCL.out, HRU.out, HZ.out.1, HZ.out.2]; exact P1, by rw [HFL.out]; exact hr1, by rw [HCL.out]; exact hr2, P2⟩
set_option maxRecDepth 100000 in
set_option maxHeartbeats 8000000 in
theorem psqrt_none (v : Value) (a b : Rat) (w : World) (h : IsS w v a b) (sa : BQ a 500) (sb : BQ b 500) (na : ¬ a.num < 0) (hr : b.num.natAbs * 2 ^ 120 % b.den = 0) :
   Calls Tryz.prog 85 #[v, .int .i64 60] w fun e w' => ∃ r t v', e = .returned (.tuple #[v', .int .i64 0]) ∧ IsS w' v' (mkRat (r : Nat) (2 ^ 60)) (mkRat (rtUp (clN b) t : Nat) (2 ^ 60)) ∧ IsRt (flN a) r ∧ IsRt (clN b) t ∧ Below w.heap.size w w' := by
 obtain ⟨s1, A1, L1, C1, D1, M1, E1, s2, A2, L2, C2, D2, M2, E2, rfl, q1, q2⟩ := h.opn
 obtain rfl : s1 = false := by rw [q1.parts.1]; exact decide_eq_false na
 have hG := fun w => pgrid60 w
 have hU1 := fun w h => pup_any (.agg #[.bool false, .slice A1 L1 C1, .slice D1 M1 E1]) a w h (sa.more (by omega))
 have sxa : Sz (a.num.natAbs * 2 ^ 120) 502 := (sa.1.mul (Sz.two_pow 120)).more (by omega)
 have sxb : Sz (b.num.natAbs * 2 ^ 120) 502 := (sb.1.mul (Sz.two_pow 120)).more (by omega)
 have hD1 := fun u w h h' => dm_any u (.slice D1 M1 E1) (a.num.natAbs * 2 ^ 120) a.den a.den_pos w h h' (sxa.fin (by omega))
 have hU2 := fun w h => pup_any (.agg #[.bool s2, .slice A2 L2 C2, .slice D2 M2 E2]) b w h (sb.more (by omega))
 have hD2 := fun u w h h' => dm_any u (.slice D2 M2 E2) (b.num.natAbs * 2 ^ 120) b.den b.den_pos w h h' (sxb.fin (by omega))
 have hO := fun w => of_any 1 (by unfold W64; omega) w
 rw [show ((1 : Nat) : Int) = 1 from rfl] at hO
 have sza : Sz (a.num.natAbs * 2 ^ 120 / a.den) 510 := (sz_flN sa).more (by omega)
 have szb0 : Sz (b.num.natAbs * 2 ^ 120 / b.den) 510 := (sz_flN sb).more (by omega)
 have HFL := Lib.hid (show flN a = a.num.natAbs * 2 ^ 120 / a.den from rfl)
 have HCL := Lib.hid (show clN b = b.num.natAbs * 2 ^ 120 / b.den by unfold clN; rw [if_pos hr, Nat.add_zero])
 have szb : Sz (b.num.natAbs * 2 ^ 120 / b.den) 520 := szb0.more (by omega)
 have hAd := fun u v w h h' => add_any u v (b.num.natAbs * 2 ^ 120 / b.den) 1 w h h' (szb0.fin (by omega)) (Sz.one.fin (by omega))
 have hRo := fun v w h => root_any v (a.num.natAbs * 2 ^ 120 / a.den) w h (sza.more (by omega))
 have hUp := fun v w h => rootup_any v (b.num.natAbs * 2 ^ 120 / b.den) w h (szb.more (by omega))
 obtain ⟨P, hP⟩ : ∃ P, P = 2 ^ 120 := ⟨_, rfl⟩
 rw [← hP] at hU1 hU2 hD1 hD2 hr sza szb HFL HCL hAd hRo hUp
 clear sa sb sxa sxb szb0 h hP
 generalize a.num.natAbs * P / a.den = fa at *
 generalize b.num.natAbs * P / b.den = fb at *
 generalize b.num.natAbs * P % b.den = rb at *
 generalize a.num.natAbs * P = xa at *
 generalize b.num.natAbs * P = xb at *
 obtain ⟨g, hg⟩ : ∃ g, g = w.heap.size := ⟨_, rfl⟩
 obtain ⟨Y0, eY0, hA, bY0⟩ := box1 w 46 #[.bool false, .slice A1 L1 C1, .slice D1 M1 E1, .bool s2, .slice A2 L2 C2, .slice D2 M2 E2]
 have zY0 : Y0.heap.size = g + 1 := by rw [eY0, World.size_alloc, ← hg]
 rw [← hg] at hA
 replace q1 := q1.below bY0
 replace q2 := q2.below bY0
 have hB := bY0
 obtain ⟨Y1, eY1, hR, bY1⟩ := box1 Y0 46 #[.bool false, .slice none 0 0, .slice none 0 0, .bool false, .slice none 0 0, .slice none 0 0]
 have zY1 : Y1.heap.size = g + 1 + 1 := by rw [eY1, World.size_alloc, zY0]
 rw [zY0] at hR
 replace hA := hA.below bY1 hA.lt
 replace q1 := q1.below bY1
 replace q2 := q2.below bY1
 replace hB := hB.trans (bY1.mono hB.size)
 have hgw : w.heap.size ≤ g := by omega
 have EY := Lib.hid (And.intro hg (And.intro eY0 eY1))
 clear hg eY0 zY0 eY1 zY1
 obtain ⟨c0, c1, c2, c3, c4, c5⟩ := hA.q6
 obtain ⟨c6, c7, c8, c9, c10, c11⟩ := hR.q6
 go_enter Tryz.func85, Tryz.ntmps85
 go_wp2_with fail
 rw [← EY.out.2.1, ← EY.out.2.2, ← EY.out.1]
 refine (hG _).mono ?_
 rintro e w2 ⟨rfl, rfl⟩
 have n1 := q1.parts.2.2
 have n2 := q2.parts.2.2
 go_upto_region 3 with fail
 replace hB := hB.drew
 replace q1 := q1.below (bdrew _)
 replace q2 := q2.below (bdrew _)
 replace hA := hA.drew
 replace hR := hR.drew
 replace n1 := n1.below (bdrew _)
 replace n2 := n2.below (bdrew _)
 clear c0 c1 c2 c3 c4 c5 c6 c7 c8 c9 c10 c11
 refine wp_region_noPanic ?_
 refine wp_region_held_drew (S := fun w' => w'.cell? ⟨g, 0, none⟩ = some (.bool false) ∧ w'.cell? ⟨g, 1, none⟩ = some (.slice A1 L1 C1) ∧ w'.cell? ⟨g, 2, none⟩ = some (.slice D1 M1 E1) ∧ w'.cell? ⟨g, 3, none⟩ = some (.bool s2) ∧ w'.cell? ⟨g, 4, none⟩ = some (.slice A2 L2 C2) ∧ w'.cell? ⟨g, 5, none⟩ = some (.slice D2 M2 E2)) (by kernel_rfl) ?_ (fun hHeld => ?_)
 · exact ⟨hA.cell 0, hA.cell 1, hA.cell 2, hA.cell 3, hA.cell 4, hA.cell 5⟩
 obtain ⟨wd3_1, hwd⟩ : ∃ q, q = Y1.drew := ⟨_, rfl⟩
 rw [← hwd] at hB q1 q2 hA hR n1 n2 hHeld ⊢
 clear hwd
 refine tkH 0 rfl (v := ?v27) ?h27 ?r27
 case h27 => intro w hSw; (try dsimp only at hSw); go_simp; try (with_reducible rfl)
 refine tkH 1 rfl (v := ?v28) ?h28 ?r28
 case h28 => intro w hSw; (try dsimp only at hSw); go_simp; try (with_reducible rfl)
 refine tkH 2 rfl (v := ?v29) ?h29 ?r29
 case h29 => intro w hSw; (try dsimp only at hSw); go_simp; try (with_reducible rfl)
 refine tkH 4 rfl (v := ?v30) ?h30 ?r30
 case h30 => intro w hSw; (try dsimp only at hSw); go_simp; try (with_reducible rfl)
 refine tkH 5 rfl (v := ?v31) ?h31 ?r31
 case h31 => intro w hSw; (try dsimp only at hSw); go_simp; try (with_reducible rfl)
 refine tkH 6 rfl (v := ?v32) ?h32 ?r32
 case h32 => intro w hSw; (try dsimp only at hSw); go_simp; try (with_reducible rfl)
 try simp only [Act.put, lay1, lay2, lay3, lay4, lay5, lay6]
 refine rd1 3 rfl fun K hK => ?_
 go_simp
 refine (hU1 _ q1).mono ?_
 rintro e u3_1 ⟨v3, rfl, n3, b3_1⟩
 replace q1 := q1.below b3_1
 replace q2 := q2.below b3_1
 replace hA := hA.below b3_1 hA.lt
 replace hR := hR.below b3_1 hR.lt
 replace n1 := n1.below b3_1
 replace n2 := n2.below b3_1
 replace hB := hB.trans (b3_1.mono hB.size)
 go_wp2_with fail
 refine hK.out _ _ ?_ (fun hHeld => ?_)
 · exact ⟨hA.cell 0, hA.cell 1, hA.cell 2, hA.cell 3, hA.cell 4, hA.cell 5⟩
 clear hK K
 try simp only [Act.put, lay1, lay2, lay3, lay4, lay5, lay6]
 refine rd1 7 rfl fun K hK => ?_
 go_simp
 refine (hD1 _ _ n3 n1).mono ?_
 rintro e u3_2 ⟨v4, v5, rfl, n4, -, -, b3_2⟩
 replace q1 := q1.below b3_2
 replace q2 := q2.below b3_2
 replace hA := hA.below b3_2 hA.lt
 replace hR := hR.below b3_2 hR.lt
 replace n1 := n1.below b3_2
 replace n2 := n2.below b3_2
 replace n3 := n3.below b3_2
 replace hB := hB.trans (b3_2.mono hB.size)
 go_wp2_with fail
 refine hK.out _ _ ?_ (fun hHeld => ?_)
 · exact ⟨hA.cell 0, hA.cell 1, hA.cell 2, hA.cell 3, hA.cell 4, hA.cell 5⟩
 clear hK K
 refine tkH 8 rfl (v := ?v33) ?h33 ?r33
 case h33 => intro w hSw; (try dsimp only at hSw); go_simp; try (with_reducible rfl)
 refine tkH 9 rfl (v := ?v34) ?h34 ?r34
 case h34 => intro w hSw; (try dsimp only at hSw); go_simp; try (with_reducible rfl)
 refine tkH 10 rfl (v := ?v35) ?h35 ?r35
 case h35 => intro w hSw; (try dsimp only at hSw); go_simp; try (with_reducible rfl)
 refine tkH 11 rfl (v := ?v36) ?h36 ?r36
 case h36 => intro w hSw; (try dsimp only at hSw); go_simp; try (with_reducible rfl)
 refine tkH 12 rfl (v := ?v37) ?h37 ?r37
 case h37 => intro w hSw; (try dsimp only at hSw); go_simp; try (with_reducible rfl)
 refine tkH 13 rfl (v := ?v38) ?h38 ?r38
 case h38 => intro w hSw; (try dsimp only at hSw); go_simp; try (with_reducible rfl)
 refine tkH 14 rfl (v := ?v39) ?h39 ?r39
 case h39 => intro w hSw; (try dsimp only at hSw); go_simp; try (with_reducible rfl)
 try simp only [Act.put, lay1, lay2, lay3, lay4, lay5, lay6]
 try dsimp only
 try simp only [Act.put, lay1, lay2, lay3, lay4, lay5, lay6]
 refine wpAnyH_done (by kernel_rfl) ?_ _
 refine NoPanic.normal ?_
 skip
 obtain ⟨c12, c13, c14, c15, c16, c17⟩ := hA.q6
 obtain ⟨c18, c19, c20, c21, c22, c23⟩ := hR.q6
 go_upto_region 4 with fail
 replace hB := hB.drew
 replace q2 := q2.below (bdrew _)
 replace hA := hA.drew
 replace hR := hR.drew
 replace n2 := n2.below (bdrew _)
 replace n4 := n4.below (bdrew _)
 clear c12 c13 c14 c15 c16 c17 c18 c19 c20 c21 c22 c23
 refine wp_region_noPanic ?_
 refine wp_region_held_drew (S := fun w' => w'.cell? ⟨g, 0, none⟩ = some (.bool false) ∧ w'.cell? ⟨g, 1, none⟩ = some (.slice A1 L1 C1) ∧ w'.cell? ⟨g, 2, none⟩ = some (.slice D1 M1 E1) ∧ w'.cell? ⟨g, 3, none⟩ = some (.bool s2) ∧ w'.cell? ⟨g, 4, none⟩ = some (.slice A2 L2 C2) ∧ w'.cell? ⟨g, 5, none⟩ = some (.slice D2 M2 E2)) (by kernel_rfl) ?_ (fun hHeld => ?_)
 · exact ⟨hA.cell 0, hA.cell 1, hA.cell 2, hA.cell 3, hA.cell 4, hA.cell 5⟩
 obtain ⟨wd4_2, hwd⟩ : ∃ q, q = u3_2.drew := ⟨_, rfl⟩
 rw [← hwd] at hB q2 hA hR n2 n4 hHeld ⊢
 clear hwd
 refine tkH 0 rfl (v := ?v40) ?h40 ?r40
 case h40 => intro w hSw; (try dsimp only at hSw); go_simp; try (with_reducible rfl)
 refine tkH 1 rfl (v := ?v41) ?h41 ?r41
 case h41 => intro w hSw; (try dsimp only at hSw); go_simp; try (with_reducible rfl)
 refine tkH 2 rfl (v := ?v42) ?h42 ?r42
 case h42 => intro w hSw; (try dsimp only at hSw); go_simp; try (with_reducible rfl)
 refine tkH 4 rfl (v := ?v43) ?h43 ?r43
 case h43 => intro w hSw; (try dsimp only at hSw); go_simp; try (with_reducible rfl)
 refine tkH 5 rfl (v := ?v44) ?h44 ?r44
 case h44 => intro w hSw; (try dsimp only at hSw); go_simp; try (with_reducible rfl)
 refine tkH 6 rfl (v := ?v45) ?h45 ?r45
 case h45 => intro w hSw; (try dsimp only at hSw); go_simp; try (with_reducible rfl)
 try simp only [Act.put, lay1, lay2, lay3, lay4, lay5, lay6]
 refine rd1 3 rfl fun K hK => ?_
 go_simp
 refine (hU2 _ q2).mono ?_
 rintro e u4_1 ⟨v6, rfl, n6, b4_1⟩
 replace q2 := q2.below b4_1
 replace hA := hA.below b4_1 hA.lt
 replace hR := hR.below b4_1 hR.lt
 replace n2 := n2.below b4_1
 replace n4 := n4.below b4_1
 replace hB := hB.trans (b4_1.mono hB.size)
 go_wp2_with fail
 refine hK.out _ _ ?_ (fun hHeld => ?_)
 · exact ⟨hA.cell 0, hA.cell 1, hA.cell 2, hA.cell 3, hA.cell 4, hA.cell 5⟩
 clear hK K
 try simp only [Act.put, lay1, lay2, lay3, lay4, lay5, lay6]
 refine rd1 7 rfl fun K hK => ?_
 go_simp
 refine (hD2 _ _ n6 n2).mono ?_
 rintro e u4_2 ⟨v7, v8, rfl, n7, n8, -, b4_2⟩
 replace q2 := q2.below b4_2
 replace hA := hA.below b4_2 hA.lt
 replace hR := hR.below b4_2 hR.lt
 replace n2 := n2.below b4_2
 replace n4 := n4.below b4_2
 replace n6 := n6.below b4_2
 replace hB := hB.trans (b4_2.mono hB.size)
 go_wp2_with fail
 refine hK.out _ _ ?_ (fun hHeld => ?_)
 · exact ⟨hA.cell 0, hA.cell 1, hA.cell 2, hA.cell 3, hA.cell 4, hA.cell 5⟩
 clear hK K
 refine tkH 8 rfl (v := ?v46) ?h46 ?r46
 case h46 => intro w hSw; (try dsimp only at hSw); go_simp; try (with_reducible rfl)
 refine tkH 9 rfl (v := ?v47) ?h47 ?r47
 case h47 => intro w hSw; (try dsimp only at hSw); go_simp; try (with_reducible rfl)
 refine tkH 10 rfl (v := ?v48) ?h48 ?r48
 case h48 => intro w hSw; (try dsimp only at hSw); go_simp; try (with_reducible rfl)
 refine tkH 11 rfl (v := ?v49) ?h49 ?r49
 case h49 => intro w hSw; (try dsimp only at hSw); go_simp; try (with_reducible rfl)
 refine tkH 12 rfl (v := ?v50) ?h50 ?r50
 case h50 => intro w hSw; (try dsimp only at hSw); go_simp; try (with_reducible rfl)
 refine tkH 13 rfl (v := ?v51) ?h51 ?r51
 case h51 => intro w hSw; (try dsimp only at hSw); go_simp; try (with_reducible rfl)
 refine tkH 14 rfl (v := ?v52) ?h52 ?r52
 case h52 => intro w hSw; (try dsimp only at hSw); go_simp; try (with_reducible rfl)
 try simp only [Act.put, lay1, lay2, lay3, lay4, lay5, lay6]
 try dsimp only
 try simp only [Act.put, lay1, lay2, lay3, lay4, lay5, lay6]
 refine wpAnyH_done (by kernel_rfl) ?_ _
 refine NoPanic.normal ?_
 skip
 obtain ⟨c24, c25, c26, c27, c28, c29⟩ := hA.q6
 obtain ⟨c30, c31, c32, c33, c34, c35⟩ := hR.q6
 obtain ⟨A8, L8, C8, rfl, n8⟩ := n8.opn
 have hL8 : L8 = (limbs rb).length := by
   obtain ⟨A', c', e, _⟩ := n8
   injection e with _ e2
 rw [hr, limbs_zero] at hL8
 have hL8' : L8 = 0 := hL8
 have l1 : decide ((0 : Int) < (L8 : Int)) = false := decide_eq_false (by omega)
 have l2 : decide (0 < L8) = false := decide_eq_false (by omega)
 clear hL8 hL8'
 go_wp2_with fail
 refine (hRo _ _ n4).mono ?_
 rintro e w7 ⟨r, v11, rfl, n11, hr1, b7⟩
 replace hA := hA.below b7 hA.lt
 replace hR := hR.below b7 hR.lt
 replace n4 := n4.below b7
 replace n7 := n7.below b7
 replace hB := hB.trans (b7.mono hB.size)
 clear c24 c25 c26 c27 c28 c29 c30 c31 c32 c33 c34 c35
 obtain ⟨c36, c37, c38, c39, c40, c41⟩ := hA.q6
 obtain ⟨c42, c43, c44, c45, c46, c47⟩ := hR.q6
 obtain ⟨A11, L11, C11, rfl, n11⟩ := n11.opn
 go_wp2_with fail
 refine (hUp _ _ n7).mono ?_
 rintro e w9 ⟨t, v12, rfl, n12, hr2, b9⟩
 replace hA := hA.below b9 hA.lt
 replace hR := hR.below b9 hR.lt
 replace n7 := n7.below b9
 replace n11 := n11.below b9
 replace hB := hB.trans (b9.mono hB.size)
 clear c36 c37 c38 c39 c40 c41 c42 c43 c44 c45 c46 c47
 obtain ⟨c48, c49, c50, c51, c52, c53⟩ := hA.q6
 obtain ⟨c54, c55, c56, c57, c58, c59⟩ := hR.q6
 obtain ⟨A12, L12, C12, rfl, n12⟩ := n12.opn
 have st : Sz (rtUp (fb) t) 700 := by
   have h1 := hr2.le
   have h2 : Sz (t + 1) 700 := ((szb.le h1).add Sz.one).more (by omega)
   refine h2.le ?_
   unfold rtUp; split <;> omega
 have sr : Sz r 700 := (sza.le hr1.le).more (by omega)
 have hBt := fun u v w h h' => pbetween_any u v (r : Int) (rtUp (fb) t : Int) w h h' (by simpa using sr.more (by omega)) (by simpa using st.more (by omega))
 generalize hru : rtUp (fb) t = ru at *
 have HRU := Lib.hid hru
 clear hru st sr
 go_wp2_with fail
 refine (hBt _ _ _ (zN n11) (zN n12)).mono ?_
 rintro e w11 ⟨v13, rfl, h13, b11⟩
 replace hA := hA.below b11 hA.lt
 replace hR := hR.below b11 hR.lt
 replace n11 := n11.below b11
 replace n12 := n12.below b11
 replace hB := hB.trans (b11.mono hB.size)
 clear c48 c49 c50 c51 c52 c53 c54 c55 c56 c57 c58 c59
 obtain ⟨c60, c61, c62, c63, c64, c65⟩ := hA.q6
 obtain ⟨c66, c67, c68, c69, c70, c71⟩ := hR.q6
 obtain ⟨s13, A13, L13, C13, D13, M13, E13, s14, A14, L14, C14, D14, M14, E14, rfl, q13, q14⟩ := h13.opn
 generalize hz1 : mkRat (r : Int) (2 ^ 60) = z1 at *
 generalize hz2 : mkRat (ru : Int) (2 ^ 60) = z2 at *
 have HZ := Lib.hid (And.intro hz1 hz2)
 clear hz1 hz2 hBt
 obtain ⟨p1, p2, p3⟩ := put6 hR (.bool s13) (.slice A13 L13 C13) (.slice D13 M13 E13) (.bool s14) (.slice A14 L14 C14) (.slice D14 M14 E14) (by simp [noU]) hB (by omega)
 have rc0 : World.cell? _ ⟨g + 1, 0, none⟩ = some (.bool false) := hR.cell 0
 have rf0 := hR.frozen 0
 have rc1 : World.cell? _ ⟨g + 1, 1, none⟩ = some (.slice none 0 0) := hR.cell 1
 have rf1 := hR.frozen 1
 have rc2 : World.cell? _ ⟨g + 1, 2, none⟩ = some (.slice none 0 0) := hR.cell 2
 have rf2 := hR.frozen 2
 have rc3 : World.cell? _ ⟨g + 1, 3, none⟩ = some (.bool false) := hR.cell 3
 have rf3 := hR.frozen 3
 have rc4 : World.cell? _ ⟨g + 1, 4, none⟩ = some (.slice none 0 0) := hR.cell 4
 have rf4 := hR.frozen 4
 have rc5 : World.cell? _ ⟨g + 1, 5, none⟩ = some (.slice none 0 0) := hR.cell 5
 have rf5 := hR.frozen 5
 have P := Lib.hid (And.intro (⟨_, _, _, _, _, _, rfl, q13.kept p2, q14.kept p2⟩ : IsS _ _ z1 z2) (And.intro p3 p1.cells6))
 clear p1 p2 p3
 go_wp2_with fail
 obtain ⟨P1, P2, P3, P4, P5, P6, P7, P8⟩ := P.out
 exact bodyPost_ret (v := .tuple #[.agg #[.bool s13, .slice A13 L13 C13, .slice D13 M13 E13, .bool s14, .slice A14 L14 C14, .slice D14 M14 E14], .int .i64 0]) (by simp [results, Tryz.results85, go_sem, P3, P4, P5, P6, P7, P8]) rfl ⟨r, t, _, rfl, by rw [HCL.out, HRU.out, HZ.out.1, HZ.out.2]; exact P1, by rw [HFL.out]; exact hr1, by rw [HCL.out]; exact hr2, P2⟩
theorem psqrt_any (v : Value) (a b : Rat) (w : World) (h : IsS w v a b) (sa : BQ a 500) (sb : BQ b 500) (na : ¬ a.num < 0) :
   Calls Tryz.prog 85 #[v, .int .i64 60] w fun e w' => ∃ r t v', e = .returned (.tuple #[v', .int .i64 0]) ∧ IsS w' v' (mkRat (r : Nat) (2 ^ 60)) (mkRat (rtUp (clN b) t : Nat) (2 ^ 60)) ∧ IsRt (flN a) r ∧ IsRt (clN b) t ∧ Below w.heap.size w w' := by
 by_cases hr : b.num.natAbs * 2 ^ 120 % b.den = 0
 · exact psqrt_none v a b w h sa sb na hr
 · exact psqrt_some v a b w h sa sb na hr
end Go.Proofs.YtdnjdglekifhpaaGreat
namespace Go.Proofs.YtdnjdglekifhpaaGreat
theorem rt_ex : ∀ a : Nat, ∃ r, IsRt a r
 | 0 => ⟨0, by unfold IsRt; omega⟩
 | a + 1 => by
   obtain ⟨r, h1, h2⟩ := rt_ex a
   by_cases h : (r + 1) * (r + 1) ≤ a + 1
   · refine ⟨r + 1, h, ?_⟩
     have : (r + 1 + 1) * (r + 1 + 1) = (r + 1) * (r + 1) + 2 * (r + 1) + 1 := by grind
     omega
   · exact ⟨r, by omega, by omega⟩
noncomputable def rootN (a : Nat) : Nat := (rt_ex a).choose
theorem rootN_is (a : Nat) : IsRt a (rootN a) := (rt_ex a).choose_spec
noncomputable def sqLo (a : Rat) : Rat := mkRat (rootN (flN a) : Nat) (2 ^ 60)
noncomputable def sqHi (b : Rat) : Rat := mkRat (rtUp (clN b) (rootN (clN b)) : Nat) (2 ^ 60)
def divLo (a b c d : Rat) : Rat := mnTo (quo4 a b c d) 3
def divHi (a b c d : Rat) : Rat := mxTo (quo4 a b c d) 3
def mulLo (a b c d : Rat) : Rat := mnTo [a * c, a * d, b * c, b * d] 3
def mulHi (a b c d : Rat) : Rat := mxTo [a * c, a * d, b * c, b * d] 3
theorem four_all {P : Rat → Prop} {a b c d : Rat} (ha : P a) (hb : P b) (hc : P c) (hd : P d) : P (mnTo [a, b, c, d] 3) ∧ P (mxTo [a, b, c, d] 3) := by
 have h : ∀ i, i < [a, b, c, d].length → P (qnt [a, b, c, d] i) := fun i hi => by
   match i, hi with
   | 0, _ => exact ha
   | 1, _ => exact hb
   | 2, _ => exact hc
   | 3, _ => exact hd
 exact ⟨mnTo_all h 3 (by simp), mxTo_all h 3 (by simp)⟩
theorem sz_div {a b c d : Rat} {k m : Nat} (sa : BQ a k) (sb : BQ b k) (sc : BQ c m) (sd : BQ d m) : BQ (divLo a b c d) (k + m + 1) ∧ BQ (divHi a b c d) (k + m + 1) :=
 four_all (P := fun q => BQ q (k + m + 1)) (bq_div sa sc) (bq_div sa sd) (bq_div sb sc) (bq_div sb sd)
theorem sz_mul {a b c d : Rat} {k m : Nat} (sa : BQ a k) (sb : BQ b k) (sc : BQ c m) (sd : BQ d m) : BQ (mulLo a b c d) (k + m + 1) ∧ BQ (mulHi a b c d) (k + m + 1) :=
 four_all (P := fun q => BQ q (k + m + 1)) (sa.mul sc) (sa.mul sd) (sb.mul sc) (sb.mul sd)
theorem sz60 {n k : Nat} (h : Sz n k) (hk : 2 ≤ k) : BQ (mkRat (n : Int) (2 ^ 60)) k := by
 have h1 : Sz (2 ^ 60) k := (Sz.two_pow 60).more (by omega)
 generalize 2 ^ 60 = P at *
 exact BQ.mk (by rw [Int.natAbs_natCast]; exact h) h1 (by omega)
theorem sz_sqLo {a : Rat} {k : Nat} (h : BQ a k) : BQ (sqLo a) (k + 2) := by
 unfold sqLo
 exact sz60 ((sz_flN h).le (rootN_is _).le) (by omega)
theorem sz_sqHi {a : Rat} {k : Nat} (h : BQ a k) : BQ (sqHi a) (k + 6) := by
 unfold sqHi
 refine sz60 ?_ (by omega)
 have h1 : Sz (rootN (clN a) + 1) (k + 4 + 1 + 1) := ((sz_clN h).le (rootN_is _).le).add Sz.one
 refine Sz.le (a := rootN (clN a) + 1) h1 ?_
 unfold rtUp; split <;> omega
theorem sqLo_nonneg (a : Rat) : 0 ≤ sqLo a := by unfold sqLo; exact man_nonneg 60 (by omega)
theorem sqHi_nonneg (a : Rat) : 0 ≤ sqHi a := by unfold sqHi; exact man_nonneg 60 (by omega)
theorem pow_in {x : Rat} (h0 : 0 ≤ x) (h1 : x ≤ 1) : ∀ n, 0 ≤ powQ x n ∧ powQ x n ≤ 1
 | 0 => ⟨(by decide +kernel : (0 : Rat) ≤ 1), Rat.le_refl⟩
 | n + 1 => by
   obtain ⟨p0, p1⟩ := pow_in h0 h1 n
   refine ⟨Rat.mul_nonneg p0 h0, ?_⟩
   have := Rat.mul_le_mul_of_nonneg_right p1 h0
   unfold powQ
   rw [Rat.one_mul] at this
   exact Rat.le_trans this h1
theorem lack_pos {beta : Int} {k t : Nat} (h0 : 0 ≤ beta) (h1 : beta < ((2 ^ k : Nat) : Int)) (ht : 1 ≤ t) : 0 < 1 - powQ (mkRat beta (2 ^ k)) t := by
 have hx0 := man_nonneg k h0
 have hx1 : mkRat beta (2 ^ k) < 1 := by
   obtain ⟨s1, s2⟩ := stepP k
   have h2 := mkP_mul beta k
   have hP := powQ_pos k
   refine Rat.lt_of_mul_lt_mul_right (c := ((2 ^ k : Nat) : Rat)) ?_ (Rat.le_of_lt hP)
   rw [h2, Rat.one_mul]
   have h3 : (beta : Rat) < (((2 ^ k : Nat) : Int) : Rat) := by rw [Rat.intCast_lt_intCast]; exact h1
   exact h3
 obtain ⟨n, rfl⟩ : ∃ n, t = n + 1 := ⟨t - 1, by omega⟩
 obtain ⟨p0, p1⟩ := pow_in hx0 (Rat.le_of_lt hx1) n
 have h4 := Rat.mul_le_mul_of_nonneg_right p1 hx0
 rw [Rat.one_mul] at h4
 have h5 : powQ (mkRat beta (2 ^ k)) (n + 1) ≤ mkRat beta (2 ^ k) := h4
 generalize powQ (mkRat beta (2 ^ k)) (n + 1) = p at *
 generalize mkRat beta (2 ^ k) = x at *
 grind
theorem pos_num {a : Rat} (h : 0 < a) : a.num ≠ 0 := fun e => by
 rw [Rat.num_eq_zero] at e; rw [e] at h; exact absurd h (by decide)
theorem pos_has {c d : Rat} (h : 0 < c) : (decide (cmpQ c 0 ≤ 0) && decide (cmpQ 0 d ≤ 0)) = false := by
 rw [decide_eq_false (by rw [cmpQ_le_iff, Rat.not_le]; exact h), Bool.false_and]
theorem div_nonneg {a b : Rat} (ha : 0 ≤ a) (hb : 0 < b) : 0 ≤ divQ a b := by
 rw [divQ_eq a b hb, Rat.div_def]
 refine Rat.mul_nonneg ha ?_
 exact Rat.le_of_lt (Rat.inv_pos.2 hb)
theorem add_posQ {a b : Rat} (ha : 0 ≤ a) (hb : 0 < b) : 0 < a + b := by grind
noncomputable def updLo (l1 l2 eps rate f0 f1 s0 s1 : Rat) : Rat :=
 mkRat (flr (mulLo rate rate (divLo (divLo f0 f1 l1 l1) (divHi f0 f1 l1 l1) (sqLo (divLo s0 s1 l2 l2) + eps) (sqHi (divHi s0 s1 l2 l2) + eps)) (divHi (divLo f0 f1 l1 l1) (divHi f0 f1 l1 l1) (sqLo (divLo s0 s1 l2 l2) + eps) (sqHi (divHi s0 s1 l2 l2) + eps))) 60) (2 ^ 60)
noncomputable def updHi (l1 l2 eps rate f0 f1 s0 s1 : Rat) : Rat :=
 mkRat (cel (mulHi rate rate (divLo (divLo f0 f1 l1 l1) (divHi f0 f1 l1 l1) (sqLo (divLo s0 s1 l2 l2) + eps) (sqHi (divHi s0 s1 l2 l2) + eps)) (divHi (divLo f0 f1 l1 l1) (divHi f0 f1 l1 l1) (sqLo (divLo s0 s1 l2 l2) + eps) (sqHi (divHi s0 s1 l2 l2) + eps))) 60) (2 ^ 60)
open Go.RowKit
attribute [local go_sem ↓] Go.wp_at_zero Go.wp_at_succ
theorem Blk.q12 {w : World} {G : Nat} {t : TypeId} {x0 x1 x2 x3 x4 x5 x6 x7 x8 x9 x10 x11 : Value} (hb : Blk w G t #[x0, x1, x2, x3, x4, x5, x6, x7, x8, x9, x10, x11]) : w.cell? ⟨G, 0, none⟩ = some x0 ∧ w.cell? ⟨G, 1, none⟩ = some x1 ∧ w.cell? ⟨G, 2, none⟩ = some x2 ∧ w.cell? ⟨G, 3, none⟩ = some x3 ∧ w.cell? ⟨G, 4, none⟩ = some x4 ∧ w.cell? ⟨G, 5, none⟩ = some x5 ∧ w.cell? ⟨G, 6, none⟩ = some x6 ∧ w.cell? ⟨G, 7, none⟩ = some x7 ∧ w.cell? ⟨G, 8, none⟩ = some x8 ∧ w.cell? ⟨G, 9, none⟩ = some x9 ∧ w.cell? ⟨G, 10, none⟩ = some x10 ∧ w.cell? ⟨G, 11, none⟩ = some x11 :=
 ⟨hb.cell 0, hb.cell 1, hb.cell 2, hb.cell 3, hb.cell 4, hb.cell 5, hb.cell 6, hb.cell 7, hb.cell 8, hb.cell 9, hb.cell 10, hb.cell 11⟩
theorem psqrt_fn (v : Value) (a b : Rat) (w : World) (h : IsS w v a b) (sa : BQ a 500) (sb : BQ b 500) (na : ¬ a.num < 0) :
   Calls Tryz.prog 85 #[v, .int .i64 60] w fun e w' => ∃ v', e = .returned (.tuple #[v', .int .i64 0]) ∧ IsS w' v' (sqLo a) (sqHi b) ∧ Below w.heap.size w w' :=
 (psqrt_any v a b w h sa sb na).mono fun _ _ ⟨r, t, v', e, h1, h2, h3, hB⟩ => ⟨v', e, by
   rw [h2.uniq (rootN_is _), h3.uniq (rootN_is _)] at h1
   exact h1, hB⟩
theorem fillHead {w : World} {R : Nat} {t : TypeId} {a b c d e f : Value} (hR : Blk w R t #[a, b, c, d, e, f]) (x y z : Value) (hcs : (#[a, b, c, d, e, f] : Array Value).all noU = true) : ∃ W, W = ((w.setCell ⟨R, 0, none⟩ x).setCell ⟨R, 1, none⟩ y).setCell ⟨R, 2, none⟩ z ∧ Filled w W R t #[x, y, z, d, e, f] :=
 ⟨_, rfl, by simpa using ((hR.set_ 0 x).set_ 1 y).set_ 2 z, fun v l h => h.keepBlk hR hcs (fun k hk => (Below.heap_setCell _ ⟨R, 2, none⟩ z k hk).trans ((Below.heap_setCell _ ⟨R, 1, none⟩ y k hk).trans (Below.heap_setCell w ⟨R, 0, none⟩ x k hk))) (by simp [World.setCell]), fun g t' cs h hne => ((h.far (p := ⟨R, 0, none⟩) hne x).far (p := ⟨R, 1, none⟩) hne y).far (p := ⟨R, 2, none⟩) hne z, fun B w0 hBR hB => ((hB.setCell (p := ⟨R, 0, none⟩) hBR x).setCell (p := ⟨R, 1, none⟩) hBR y).setCell (p := ⟨R, 2, none⟩) hBR z⟩
end Go.Proofs.YtdnjdglekifhpaaGreat
namespace Go.Proofs.YtdnjdglekifhpaaGreat
open Go.RowKit
section
variable {P : Program} {ops : Array Oper} {Q : Exit → Act → World → Prop} {md : Region.Mode} {S : World → Prop}
theorem getD_true {l : Array Bool} {i : Nat} (h : l.getD i true = false) : ∃ h' : i < l.size, l[i] = false := by
 rcases Nat.lt_or_ge i l.size with h' | h'
 · exact ⟨h', by simpa [h'] using h⟩
 · rw [Array.getD_eq_getD_getElem?, Array.getElem?_eq_none h'] at h; cases h
theorem wpAnyH_until (I : Array Bool → Act → World → Prop) (T : Array Bool → Bool)
   (hord : ∀ (i : Nat) (o : Oper), ops[i]? = some o → ∀ e ∈ o.after, Region.binds md e = true → e.on < i)
   (hsz : ∀ l a w, I l a w → l.size = ops.size)
   (hT : ∀ l a w, I l a w → (∀ i, i < ops.size → l.getD i false = true) → T l = true)
   (hgo : ∀ fuel l a w, I l a w → T l = true → l.count false ≤ fuel → wpAnyH P md ops Q S fuel l a w)
   (hstep : ∀ (l : Array Bool) (a : Act) (w : World) (i : Nat) (o : Oper), I l a w → T l = false → ops[i]? = some o → l.getD i true = false → (∀ e ∈ o.after, Region.binds md e = true → l.getD e.on false = true) →
     ∀ K : Act → World → Prop, Shut (∀ a' w', S w' → I (l.setIfInBounds i true) a' w' → K a' w') → if Region.wanted o (yielded ops a.tmps) = true then Oper.wp P o a w K Q else K (a.put o.dst undef) w) :
   ∀ fuel l a w, I l a w → l.count false ≤ fuel → wpAnyH P md ops Q S fuel l a w := by
 have hall : ∀ l a w, I l a w → Region.ready md ops l = [] → ∀ i, i < ops.size → l.getD i false = true := by
   intro l a w hI hr i
   induction i using Nat.strongRecOn with
   | _ i ih =>
     intro hi
     cases h : l.getD i true
     · exfalso
       have ho : ops[i]? = some ops[i] := Array.getElem?_eq_getElem hi
       have : i ∈ Region.ready md ops l := mem_ready.2 ⟨h, _, ho, fun e he hb => ih e.on (hord i _ ho e he hb) (Nat.lt_trans (hord i _ ho e he hb) hi)⟩
       rw [hr] at this; cases this
     · have hs := hsz l a w hI
       have hi' : i < l.size := by omega
       simp [hi'] at h ⊢
       exact h
 intro fuel
 induction fuel with
 | zero =>
   intro l a w hI hc
   cases hTl : T l
   · exfalso
     have hr : Region.ready md ops l = [] := by
       rw [List.eq_nil_iff_forall_not_mem]
       intro i hi
       obtain ⟨h', hf⟩ := getD_true (mem_ready.1 hi).1
       have : 0 < l.count false := Array.count_pos_iff.2 (hf ▸ Array.getElem_mem h')
       omega
     rw [hT l a w hI (hall l a w hI hr)] at hTl; cases hTl
   · exact hgo 0 l a w hI hTl hc
 | succ fuel ih =>
   intro l a w hI hc
   cases hTl : T l
   · refine ⟨fun hr => ?_, fun i hi => ?_⟩
     · rw [hT l a w hI (hall l a w hI hr)] at hTl; cases hTl
     · obtain ⟨h1, o, ho, h2⟩ := mem_ready.1 hi
       obtain ⟨h', hf⟩ := getD_true h1
       refine wpOp_step ho (fun K hK => hstep l a w i o hI hTl ho h1 h2 K (fun a' w' hS hI => hK a' w' ⟨hS, ih _ a' w' hI ?_⟩))
       rw [Array.setIfInBounds_def, dif_pos h']
       have := Array.count_set (a := true) (b := false) h'
       rw [this, hf]
       have : 0 < l.count false := Array.count_pos_iff.2 (hf ▸ Array.getElem_mem h')
       simp
       omega
   · exact hgo (fuel + 1) l a w hI hTl hc
end
theorem hord_of {ops : Array Oper} {md : Region.Mode} (h : ((List.range ops.size).all fun i => ((ops[i]?).map fun o => o.after.all fun e => !Region.binds md e || decide (e.on < i)).getD true) = true) : ∀ (i : Nat) (o : Oper), ops[i]? = some o → ∀ e ∈ o.after, Region.binds md e = true → e.on < i := by
 intro i o ho e he hb
 have hi : i < ops.size := by
   rcases Nat.lt_or_ge i ops.size with h' | h'
   · exact h'
   · rw [Array.getElem?_eq_none h'] at ho; cases ho
 have := List.all_eq_true.1 h i (List.mem_range.2 hi)
 rw [ho] at this
 simp only [Option.map_some, Option.getD_some] at this
 have := Array.all_eq_true_iff_forall_mem.1 this e he
 rw [hb] at this
 exact of_decide_eq_true (by simpa using this)
def Got (t : TypeId) (c : Array Value) (B : Nat) (w : World) (b : Bool) (x : Value) (n : Nat) : Prop := b = true → x = .pointer (some ⟨n, 0, none⟩) ∧ B ≤ n ∧ Blk w n t c
section
variable {t t' : TypeId} {c c' : Array Value} {B n n' : Nat} {w w' : World} {b b' : Bool} {x y : Value}
theorem Got.below (h : Got t c B w b x n) (hb : Below w.heap.size w w') : Got t c B w' b x n := fun e => ⟨(h e).1, (h e).2.1, (h e).2.2.below hb (h e).2.2.lt⟩
theorem Got.alloc (h : Got t c B w b x n) (o : Obj) : Got t c B (w.alloc o) b x n := fun e => ⟨(h e).1, (h e).2.1, (h e).2.2.alloc o⟩
theorem Got.drew (h : Got t c B w b x n) : Got t c B w.drew b x n := h
theorem Got.no : Got t c B w false x n := fun e => nomatch e
theorem Got.new (h : B ≤ w.heap.size) : Got t c B (w.alloc (.cells c t)) true (.pointer (some ⟨w.heap.size, 0, none⟩)) w.heap.size := fun _ => ⟨rfl, h, Blk.new w t c⟩
end
def dstOf (ops : Array Oper) (i : Nat) : Option Nat := (ops[i]?).bind (·.dst)
def waits (md : Region.Mode) (o : Oper) (j : Nat) : Bool := o.after.any fun e => Region.binds md e && e.on == j
def putAll : List Value → List (Nat × Value) → List Value
 | t, [] => t
 | t, (d, v) :: r => putAll (t.set d v) r
theorem tmps_of (x : Array Value) : ∀ (ds : List (Nat × Value)) (t : List Value), (∀ p ∈ ds, x[p.1]? = some p.2) → (∀ s, (ds.map (·.1)).contains s = false → x[s]? = t[s]?) → x.size = t.length → x = (putAll t ds).toArray
 | [], t, _, h2, _ => by
   apply Array.ext_getElem?
   intro i
   rw [h2 i rfl]; simp [putAll]
 | (d, v) :: r, t, h1, h2, h3 => by
   unfold putAll
   refine tmps_of x r (t.set d v) (fun p hp => h1 p (List.mem_cons_of_mem _ hp)) (fun s hs => ?_) (by simp [h3])
   by_cases e : d = s
   · subst e
     have hx : x[d]? = some v := h1 (d, v) (by simp)
     have hd : d < t.length := by
       have := (Array.getElem?_eq_some_iff.1 hx).1
       omega
     rw [hx, List.getElem?_set_self hd]
   · rw [List.getElem?_set_ne e]
     refine h2 s ?_
     rw [List.map_cons, List.contains_cons, hs, Bool.or_false, beq_eq_false_iff_ne]
     exact fun h => e h.symm
section
variable {P : Program} {ops : Array Oper} {Q : Exit → Act → World → Prop} {md : Region.Mode}
abbrev Env (md : Region.Mode) (w0 : World) (base : List Value) (part : List (Nat × Nat)) (F : Nat → Value → World → Prop) (o : Oper) (a : Act) (w : World) : Prop :=
 Below w0.heap.size w0 w ∧ (∀ s v, (part.map (·.2)).contains s = false → base[s]? = some v → a.tmps[s]? = some v) ∧ (∀ j e, (part.contains (j, e) && waits md o j) = true → ∃ v, a.tmps[e]? = some v ∧ F j v w)
inductive AllOps (P : Program) (ops : Array Oper) (Q : Exit → Act → World → Prop) (md : Region.Mode) (w0 : World) (base : List Value) (part : List (Nat × Nat)) (F : Nat → Value → World → Prop) : List (Nat × Nat) → Prop
 | nil : AllOps P ops Q md w0 base part F []
 | cons {i d : Nat} {r : List (Nat × Nat)} {o : Oper} (ho : ops[i]? = some o)
     (h : ∀ (a : Act) (w : World), Env md w0 base part F o a w → ∀ K : Act → World → Prop, (∀ v w', F i v w' → Below w.heap.size w w' → K (a.put o.dst v) w') → Oper.wp P o a w K Q)
     (hr : AllOps P ops Q md w0 base part F r) : AllOps P ops Q md w0 base part F ((i, d) :: r)
theorem AllOps.get {w0 : World} {base : List Value} {part : List (Nat × Nat)} {F : Nat → Value → World → Prop} : ∀ {l : List (Nat × Nat)}, AllOps P ops Q md w0 base part F l → ∀ i d, (i, d) ∈ l → ∃ o, ops[i]? = some o ∧
     ∀ (a : Act) (w : World), Env md w0 base part F o a w → ∀ K : Act → World → Prop, (∀ v w', F i v w' → Below w.heap.size w w' → K (a.put o.dst v) w') → Oper.wp P o a w K Q
 | _, .nil, _, _, h => by cases h
 | _, .cons ho h hr, i, d, hm => by
   rcases List.mem_cons.1 hm with e | hm
   · cases e; exact ⟨_, ho, h⟩
   · exact hr.get i d hm
inductive AllPure (P : Program) (ops : Array Oper) (md : Region.Mode) (w0 : World) (base : List Value) (part : List (Nat × Nat)) (F : Nat → Value → World → Prop) : List (Nat × Nat) → Prop
 | nil : AllPure P ops md w0 base part F []
 | cons {i d : Nat} {r : List (Nat × Nat)} {o : Oper} (ho : ops[i]? = some o)
     (h : ∀ (a : Act) (w : World), Env md w0 base part F o a w → ∃ v, (∀ w', (execOp a.eval o).run P w' = .ok (.value v) w') ∧ F i v w)
     (hr : AllPure P ops md w0 base part F r) : AllPure P ops md w0 base part F ((i, d) :: r)
theorem AllPure.get {w0 : World} {base : List Value} {part : List (Nat × Nat)} {F : Nat → Value → World → Prop} : ∀ {l : List (Nat × Nat)}, AllPure P ops md w0 base part F l → ∀ i d, (i, d) ∈ l → ∃ o, ops[i]? = some o ∧
     ∀ (a : Act) (w : World), Env md w0 base part F o a w → ∃ v, (∀ w', (execOp a.eval o).run P w' = .ok (.value v) w') ∧ F i v w
 | _, .nil, _, _, h => by cases h
 | _, .cons ho h hr, i, d, hm => by
   rcases List.mem_cons.1 hm with e | hm
   · cases e; exact ⟨_, ho, h⟩
   · exact hr.get i d hm
def partOk (ops : Array Oper) (md : Region.Mode) (l0 : Array Bool) (part : List (Nat × Nat)) (lazy : List Nat) : Bool :=
 decide (l0.size = ops.size) && decide (part.map (·.1)).Nodup && decide (part.map (·.2)).Nodup &&
 (part.all fun p => dstOf ops p.1 == some p.2 && ((ops[p.1]?).map fun o => o.guard.isNone).getD false && !(l0.getD p.1 true)) &&
 ((List.range ops.size).all fun i => l0.getD i true || (part.map (·.1)).contains i || (part.all fun p => lazy.contains p.1 || ((ops[i]?).map fun o => waits md o p.1).getD false))
def lazyOk (ops : Array Oper) (md : Region.Mode) (l0 Lm : Array Bool) (part pur : List (Nat × Nat)) (lazy : List Nat) : Bool :=
 Region.noSelect ops && (lazy.all fun i => (pur.map (·.1)).contains i && Region.free md ops Lm i && ((ops[i]?).map fun o => o.after.all fun e => !Region.binds md e || l0.getD e.on false || ((part.map (·.1)).contains e.on && !lazy.contains e.on)).getD false)
def lift (l0 : Array Bool) (ps : List Nat) : Array Bool := ps.foldl (fun l i => l.setIfInBounds i true) l0
theorem lift_at (ps : List Nat) : ∀ (l : Array Bool), (lift l ps).size = l.size ∧ ∀ i, i < l.size → (lift l ps)[i]? = some (ps.contains i || l.getD i true) := by
 induction ps with
 | nil => intro l; refine ⟨rfl, fun i hi => ?_⟩; simp [lift, hi]
 | cons p r ih =>
   intro l
   obtain ⟨k1, k2⟩ := ih (l.setIfInBounds p true)
   refine ⟨by unfold lift at *; rw [List.foldl_cons, k1]; simp, fun i hi => ?_⟩
   have := k2 i (by simpa using hi)
   unfold lift at *
   rw [List.foldl_cons, this, List.contains_cons]
   congr 1
   by_cases e : p = i
   · subst e; simp [hi]
   · have e' : (i == p) = false := by simpa using fun h => e h.symm
     rw [e', Bool.false_or]
     simp [Array.getElem?_setIfInBounds_ne e]
theorem wpAnyH_facts {S : World → Prop} {w0 : World} {base : List Value} {ds : List Deferred} (eff pur : List (Nat × Nat)) (lazy : List Nat) (F : Nat → Value → World → Prop) (L1 : Array Bool)
   (hS0 : ∀ w', Below w0.heap.size w0 w' → S w') (hpers : ∀ i v w w', Below w.heap.size w w' → F i v w → F i v w')
   (hord : ∀ (i : Nat) (o : Oper), ops[i]? = some o → ∀ e ∈ o.after, Region.binds md e = true → e.on < i)
   {l0 : Array Bool} (hchk : partOk ops md l0 (eff ++ pur) lazy = true) (hlz : lazyOk ops md l0 (lift l0 (((eff ++ pur).map (·.1)).filter fun i => !lazy.contains i)) (eff ++ pur) pur lazy = true)
   (hbl : ((eff ++ pur).all fun p => decide (p.2 < base.length)) = true) (hL1 : lift l0 ((eff ++ pur).map (·.1)) = L1)
   (hQ : ∀ c (a : Act) d v w, Q (.panic c) (a.put d v) w → Q (.panic c) a w)
   (hops : AllOps P ops Q md w0 base (eff ++ pur) F eff) (hpur : AllPure P ops md w0 base (eff ++ pur) F pur)
   (hdone : ∀ fuel (a : Act) (w : World), L1.count false ≤ fuel → Below w0.heap.size w0 w → a.defers = ds → a.tmps.size = base.length → (∀ s, ((eff ++ pur).map (·.2)).contains s = false → a.tmps[s]? = base[s]?) → (∀ j e, (eff ++ pur).contains (j, e) = true → ∃ v, a.tmps[e]? = some v ∧ F j v w) →
     wpAnyH P md ops Q S fuel L1 a w)
   {fuel : Nat} {w : World} (hw : Below w0.heap.size w0 w) (hc : l0.count false ≤ fuel) : wpAnyH P md ops Q S fuel l0 ⟨base.toArray, ds⟩ w := by
 have hpe : ∀ p, p ∈ pur → p ∈ eff ++ pur := fun p h => List.mem_append_right _ h
 have hcase : ∀ p, p ∈ eff ++ pur → p ∈ eff ∨ p ∈ pur := fun p h => List.mem_append.1 h
 generalize eff ++ pur = part at *
 unfold partOk at hchk
 unfold lazyOk at hlz
 simp only [Bool.and_eq_true, decide_eq_true_eq, List.all_eq_true, Bool.not_eq_true', Bool.or_eq_true, List.mem_range, beq_iff_eq] at hchk hlz
 obtain ⟨⟨⟨⟨hsz, hnd⟩, hnd2⟩, hp⟩, hrest⟩ := hchk
 obtain ⟨hsel, hlz⟩ := hlz
 have hin : ∀ i d, (i, d) ∈ part → i < ops.size ∧ dstOf ops i = some d ∧ l0.getD i true = false := fun i d hm => by
   obtain ⟨⟨h1, _⟩, h3⟩ := hp (i, d) hm
   refine ⟨?_, h1, h3⟩
   rcases Nat.lt_or_ge i ops.size with h | h
   · exact h
   · unfold dstOf at h1; rw [Array.getElem?_eq_none h] at h1; cases h1
 have hmem : ∀ i, (part.map (·.1)).contains i = true ↔ ∃ d, (i, d) ∈ part := fun i => by
   rw [List.contains_iff_mem, List.mem_map]
   constructor
   · rintro ⟨⟨a, b⟩, h1, rfl⟩; exact ⟨b, h1⟩
   · rintro ⟨d, h⟩; exact ⟨(i, d), h, rfl⟩
 have hone : ∀ i d e, (i, d) ∈ part → (i, e) ∈ part → d = e := fun i d e h1 h2 => by
   have := (hin i d h1).2.1.symm.trans (hin i e h2).2.1
   exact Option.some.inj this
 have hslot : ∀ i j d, (i, d) ∈ part → (j, d) ∈ part → i = j := by
   clear hops hpur hdone hrest hp hin hmem hone hL1 hbl hlz hpe hcase
   intro i j d h1 h2
   induction part with
   | nil => cases h1
   | cons x r ih =>
     rw [List.map_cons, List.nodup_cons] at hnd2 hnd
     rcases List.mem_cons.1 h1 with e1 | m1
     · rcases List.mem_cons.1 h2 with e2 | m2
       · rw [← e1] at e2; exact (Prod.mk.inj e2).1.symm
       · exfalso; subst e1; exact hnd2.1 (List.mem_map.2 ⟨_, m2, rfl⟩)
     · rcases List.mem_cons.1 h2 with e2 | m2
       · exfalso; subst e2; exact hnd2.1 (List.mem_map.2 ⟨_, m1, rfl⟩)
       · exact ih hnd2.2 hnd.2 m1 m2
 let I : Array Bool → Act → World → Prop := fun l a w => l.size = ops.size ∧ (∀ i, (part.map (·.1)).contains i = false → l.getD i true = l0.getD i true) ∧ Below w0.heap.size w0 w ∧ a.defers = ds ∧ a.tmps.size = base.length ∧ (∀ s, (part.map (·.2)).contains s = false → a.tmps[s]? = base[s]?) ∧
     (∀ i d, (i, d) ∈ part → l.getD i false = true → ∃ v, a.tmps[d]? = some v ∧ F i v w)
 have hdn : ∀ (l : Array Bool) (o : Oper), (∀ e ∈ o.after, Region.binds md e = true → l.getD e.on false = true) → ∀ j, waits md o j = true → l.getD j false = true := fun l o hd j hw => by
   unfold waits at hw
   obtain ⟨e, he, hb⟩ := Array.any_eq_true'.1 hw
   simp only [Bool.and_eq_true, beq_iff_eq] at hb
   have := hd e he hb.1
   rwa [hb.2] at this
 have henv : ∀ l a w o, I l a w → (∀ e ∈ o.after, Region.binds md e = true → l.getD e.on false = true) → Env md w0 base part F o a w := by
   rintro l a w o ⟨h1, h2, h3, h4, h5, h6, h7⟩ hd
   refine ⟨h3, fun s v hs hv => (h6 s hs).trans hv, fun j e hj => ?_⟩
   rw [Bool.and_eq_true] at hj
   exact h7 j e (List.contains_iff_mem.1 hj.1) (hdn l o hd j hj.2)
 have hnext : ∀ l a w w' i d o v, I l a w → (i, d) ∈ part → ops[i]? = some o → o.dst = some d → F i v w' → Below w.heap.size w w' → I (l.setIfInBounds i true) (a.put o.dst v) w' := by
   rintro l a w w' i d o v ⟨h1, h2, h3, h4, h5, h6, h7⟩ hm ho hdst hF hB
   have hi := (hin i d hm).1
   refine ⟨by simp [h1], fun k hk => ?_, h3.trans (hB.mono h3.size), ?_, ?_, fun s hs => ?_, fun k e hke hkl => ?_⟩
   · have hne : i ≠ k := fun e => by
       rw [← e, (hmem i).2 ⟨d, hm⟩] at hk; cases hk
     rw [← h2 k hk]
     simp [Array.getElem?_setIfInBounds_ne hne]
   · rw [hdst]; exact h4
   · rw [hdst]; simp [Act.put, h5]
   · rw [← h6 s hs, hdst]
     have hne : d ≠ s := fun e => by
       subst e
       rw [List.contains_iff_mem.2 (List.mem_map.2 ⟨_, hm, rfl⟩)] at hs; cases hs
     simp [Act.put, Array.getElem?_setIfInBounds_ne hne]
   · by_cases e1 : k = i
     · subst e1
       obtain rfl := hone k e d hke hm
       refine ⟨v, ?_, hF⟩
       rw [hdst]
       have hds : e < a.tmps.size := by
         have := List.all_eq_true.1 hbl _ hm
         rw [decide_eq_true_eq] at this
         rw [h5]; exact this
       simp [Act.put, hds]
     · have hkl' : l.getD k false = true := by
         rw [← hkl]
         simp [Array.getElem?_setIfInBounds_ne (Ne.symm e1)]
       obtain ⟨u, hu, hFu⟩ := h7 k e hke hkl'
       refine ⟨u, ?_, hpers _ _ _ _ hB hFu⟩
       rw [hdst]
       have hne : d ≠ e := fun e2 => by subst e2; exact e1 (hslot k i d hke hm)
       simp [Act.put, Array.getElem?_setIfInBounds_ne hne, hu]
 have hop : ∀ i d, (i, d) ∈ part → ∃ o, ops[i]? = some o ∧ o.dst = some d ∧ o.guard = none := fun i d hm => by
   obtain ⟨hi, h2, _⟩ := hin i d hm
   obtain ⟨⟨_, hg⟩, _⟩ := hp (i, d) hm
   have ho : ops[i]? = some ops[i] := Array.getElem?_eq_getElem hi
   rw [ho] at hg
   unfold dstOf at h2
   rw [ho] at h2
   exact ⟨_, ho, h2, by simpa using hg⟩
 refine wpAnyH_until (S := S) I (fun l => part.all fun p => lazy.contains p.1 || l.getD p.1 false) hord (fun l a w h => h.1) ?_ ?_ ?_ _ _ _ _ ?_ hc
 · intro l a w h hall
   exact List.all_eq_true.2 fun p hm => by rw [hall p.1 (hin p.1 p.2 hm).1, Bool.or_true]
 · have key : ∀ (z : List Nat), (∀ i ∈ z, i ∈ lazy) → ∀ fuel l a w, I l a w → (∀ i d, (i, d) ∈ part → z.contains i = false → l.getD i false = true) → l.count false ≤ fuel → wpAnyH P md ops Q S fuel l a w := by
     intro z
     induction z with
     | nil =>
       rintro - fuel l a w ⟨h1, h2, h3, h4, h5, h6, h7⟩ hT hc
       have hT' : ∀ i d, (i, d) ∈ part → l.getD i false = true := fun i d hm => hT i d hm rfl
       have hl : l = L1 := by
         rw [← hL1]
         obtain ⟨k1, k2⟩ := lift_at (part.map (·.1)) l0
         apply Array.ext_getElem?
         intro i
         rcases Nat.lt_or_ge i l.size with hi | hi
         · rw [k2 i (by omega)]
           cases hc : (part.map (·.1)).contains i
           · have := h2 i hc
             rw [Bool.false_or, ← this]
             simp [hi]
           · obtain ⟨d, hm⟩ := (hmem i).1 hc
             have := hT' i d hm
             simp [hi] at this
             simp [hi, this]
         · rw [Array.getElem?_eq_none hi, Array.getElem?_eq_none (by omega)]
       subst hl
       exact hdone fuel a w hc h3 h4 h5 h6 (fun j e hc => h7 j e (List.contains_iff_mem.1 hc) (hT' j e (List.contains_iff_mem.1 hc)))
     | cons i r ih =>
       intro hz fuel l a w hI hT hc
       have hir := hz i (by simp)
       by_cases hli : l.getD i false = true
       · refine ih (fun j hj => hz j (by simp [hj])) fuel l a w hI (fun j d hm hr => ?_) hc
         by_cases e : j = i
         · subst e; exact hli
         · exact hT j d hm (by rw [List.contains_cons, hr, Bool.or_false]; simpa using e)
       · obtain ⟨⟨hpu, hfr⟩, hdeps⟩ := hlz i hir
         rw [List.contains_iff_mem, List.mem_map] at hpu
         obtain ⟨⟨i', d⟩, hm, rfl⟩ := hpu
         have hmp := hpe _ hm
         obtain ⟨o, ho, hdst, hg⟩ := hop i' d hmp
         have hi := (hin i' d hmp).1
         have hls := hI.1
         have hl0 : l.getD i' true = false := by simp [show i' < l.size by omega] at hli ⊢; exact hli
         rw [ho] at hdeps
         simp only [Option.map_some, Option.getD_some, Array.all_eq_true', Bool.or_eq_true, Bool.not_eq_true', Bool.and_eq_true] at hdeps
         have hd : ∀ e ∈ o.after, Region.binds md e = true → l.getD e.on false = true := fun e he hb => by
           rcases hdeps e he with (h | h) | ⟨h, h'⟩
           · rw [hb] at h; cases h
           · cases hc2 : (part.map (·.1)).contains e.on
             · have h9 := hI.2.1 e.on hc2
               have hlt : e.on < l0.size := by
                 rcases Nat.lt_or_ge e.on l0.size with h8 | h8
                 · exact h8
                 · simp [h8] at h
               simp [hlt, show e.on < l.size by omega] at h h9 ⊢
               rw [h9]; exact h
             · obtain ⟨d2, hm2⟩ := (hmem _).1 hc2
               have := (hin _ _ hm2).2.2
               have hlt : e.on < l0.size := by have := (hin _ _ hm2).1; omega
               simp [hlt] at this h
               rw [this] at h; cases h
           · obtain ⟨d2, hm2⟩ := (hmem _).1 h
             refine hT _ d2 hm2 ?_
             cases hz2 : (i' :: r).contains e.on
             · rfl
             · have := hz e.on (List.contains_iff_mem.1 hz2)
               rw [List.contains_iff_mem.2 this] at h'; cases h'
         obtain ⟨o', ho', hpu⟩ := hpur.get i' d hm
         obtain rfl : o = o' := by rw [ho] at ho'; exact Option.some.inj ho'
         obtain ⟨v, hv, hF⟩ := hpu a w (henv l a w o hI hd)
         have hcnt : 0 < l.count false := Array.count_pos_iff.2 (by
           obtain ⟨h', hf⟩ := getD_true hl0
           exact hf ▸ Array.getElem_mem h')
         obtain ⟨n, rfl⟩ : ∃ n, fuel = n + 1 := ⟨fuel - 1, by omega⟩
         have hready : i' ∈ Region.ready md ops l := mem_ready.2 ⟨hl0, o, ho, hd⟩
         have hfree := Region.free_spec ho hfr
         refine wpAnyH_first ho (Region.noSelect_spec hsel) (fun c a w h => hQ c a _ _ w h) n l a w (fun j oj hj hji hjl hno => hfree j oj hj hji ?_ hno) hready (.inl ⟨by unfold Region.wanted; rw [hg], fun w' _ => hv w'⟩) (hS0 _ hI.2.2.1) ?_
         · obtain ⟨k1, k2⟩ := lift_at ((part.map (·.1)).filter fun i => !lazy.contains i) l0
           have hj' : j < ops.size := (Array.getElem?_eq_some_iff.1 hj).1
           have := k2 j (by omega)
           rw [Array.getD_eq_getD_getElem?, this, Option.getD_some]
           cases hc2 : (part.map (·.1)).contains j
           · have h9 := hI.2.1 j hc2
             rw [hjl] at h9
             rw [← h9, Bool.or_false]
             cases h10 : ((part.map (·.1)).filter fun i => !lazy.contains i).contains j
             · rfl
             · have := (List.mem_filter.1 (List.contains_iff_mem.1 h10)).1
               rw [List.contains_iff_mem.2 this] at hc2; cases hc2
           · obtain ⟨d2, hm2⟩ := (hmem _).1 hc2
             rw [(hin _ _ hm2).2.2, Bool.or_false]
             cases h10 : ((part.map (·.1)).filter fun i => !lazy.contains i).contains j
             · rfl
             · exfalso
               have h11 := (List.mem_filter.1 (List.contains_iff_mem.1 h10)).2
               have h12 : l.getD j false = true := hT j d2 hm2 (by
                 cases hz2 : (i' :: r).contains j
                 · rfl
                 · have := hz j (List.contains_iff_mem.1 hz2)
                   rw [List.contains_iff_mem.2 this] at h11; cases h11)
               simp [show j < l.size by omega] at h12 hjl
               rw [h12] at hjl; cases hjl
         · refine ih (fun j hj => hz j (by simp [hj])) n _ _ w (hnext l a w w i' d o v hI hmp ho hdst hF (Below.refl _ _)) (fun j d2 hm2 hr => ?_) ?_
           · by_cases e : j = i'
             · subst e; simp [show j < l.size by omega]
             · have := hT j d2 hm2 (by rw [List.contains_cons, hr, Bool.or_false]; simpa using e)
               simp only [Array.getD_eq_getD_getElem?] at this ⊢
               rw [Array.getElem?_setIfInBounds_ne (Ne.symm e)]; exact this
           · obtain ⟨h', hf⟩ := getD_true hl0
             rw [Array.setIfInBounds_def, dif_pos h']
             have := Array.count_set (a := true) (b := false) h'
             rw [this, hf]
             simp
             omega
   rintro fuel l a w hI hT hc
   refine key lazy (fun _ h => h) fuel l a w hI (fun i d hm hz => ?_) hc
   have := List.all_eq_true.1 hT (i, d) hm
   rw [hz, Bool.false_or] at this; exact this
 · rintro l a w i o hI hT ho hl hd K hK
   have hi : i < ops.size := (Array.getElem?_eq_some_iff.1 ho).1
   cases hc : (part.map (·.1)).contains i
   · exfalso
     have h0 := hI.2.1 i hc
     rw [hl] at h0
     rcases hrest i hi with (h | h) | h
     · rw [h] at h0; cases h0
     · rw [hc] at h; cases h
     · have : part.all (fun p => lazy.contains p.1 || l.getD p.1 false) = true := List.all_eq_true.2 fun p hm => by
         rcases h p hm with h | h
         · rw [h, Bool.true_or]
         · rw [ho] at h
           rw [hdn l o hd p.1 h, Bool.or_true]
       rw [this] at hT; cases hT
   · obtain ⟨d, hm⟩ := (hmem i).1 hc
     obtain ⟨o2, ho2, hdst, hg⟩ := hop i d hm
     obtain rfl : o = o2 := by rw [ho] at ho2; exact Option.some.inj ho2
     have hwant : Region.wanted o (yielded ops a.tmps) = true := by unfold Region.wanted; rw [hg]
     rw [if_pos hwant]
     have hgo : ∀ v w', F i v w' → Below w.heap.size w w' → K (a.put o.dst v) w' := fun v w' hF hB =>
       hK.out _ _ (hS0 _ (hI.2.2.1.trans (hB.mono hI.2.2.1.size))) (hnext l a w w' i d o v hI hm ho hdst hF hB)
     rcases hcase _ hm with he | hpu
     · obtain ⟨o', ho', h⟩ := hops.get i d he
       obtain rfl : o = o' := by rw [ho] at ho'; exact Option.some.inj ho'
       exact h a w (henv l a w o hI hd) K hgo
     · obtain ⟨o', ho', h⟩ := hpur.get i d hpu
       obtain rfl : o = o' := by rw [ho] at ho'; exact Option.some.inj ho'
       obtain ⟨v, hv, hF⟩ := h a w (henv l a w o hI hd)
       unfold Oper.wp
       rw [hv w]
       exact hgo v w hF (Below.refl _ _)
 · refine ⟨hsz, fun i _ => rfl, hw, rfl, by simp, fun s _ => by simp, fun i d hm h => ?_⟩
   have := (hin i d hm).2.2
   have hi := (hin i d hm).1
   simp [show i < l0.size by omega] at this h
   rw [this] at h; cases h
def pick : List (Nat × (Value → World → Prop)) → Nat → Value → World → Prop
 | [], _ => fun _ _ => True
 | (j, A) :: r, i => if i = j then A else pick r i
def Pers (A : Value → World → Prop) : Prop := ∀ v w w', Below w.heap.size w w' → A v w → A v w'
def PersAll : List (Nat × (Value → World → Prop)) → Prop
 | [] => True
 | p :: r => Pers p.2 ∧ PersAll r
theorem pick_pers : ∀ {l : List (Nat × (Value → World → Prop))}, PersAll l → ∀ i v w w', Below w.heap.size w w' → pick l i v w → pick l i v w'
 | [], _, _, _, _, _, _, _ => trivial
 | (j, A) :: r, h, i, v, w, w', hb, hf => by
   unfold pick at *
   split at hf
   · rename_i e; rw [if_pos e]; exact h.1 v w w' hb hf
   · rename_i e; rw [if_neg e]; exact pick_pers h.2 i v w w' hb hf
def AllAt (x : Array Value) : List (Nat × Value) → Prop
 | [] => True
 | (d, v) :: r => x[d]? = some v ∧ AllAt x r
theorem AllAt.mem {x : Array Value} : ∀ {l : List (Nat × Value)}, AllAt x l → ∀ p ∈ l, x[p.1]? = some p.2
 | (d, v) :: r, h, p, hp => by
   rcases List.mem_cons.1 hp with e | hp
   · subst e; exact h.1
   · exact h.2.mem p hp
theorem act_of {a : Act} {base : List Value} {ds : List Deferred} (l : List (Nat × Value)) (h : AllAt a.tmps l) (hd : a.defers = ds) (hz : a.tmps.size = base.length) (ho : ∀ s, (l.map (·.1)).contains s = false → a.tmps[s]? = base[s]?) : a = ⟨(putAll base l).toArray, ds⟩ := by
 obtain ⟨t, d⟩ := a
 dsimp only at *
 rw [tmps_of t l base h.mem ho hz, hd]
theorem grown_of {w w' : World} (h : Below w.heap.size w w') (row : Option Nat) : w.grownBy w' row := ⟨h.os, h.tape, h.output, h.size, fun i hi _ => h.block i hi⟩
theorem grown_set {a w : World} {g : Nat} (h : a.grownBy w (some g)) {p : Addr} (hp : p.block = g ∨ a.heap.size ≤ p.block) (u : Value) : a.grownBy (w.setCell p u) (some g) :=
 ⟨h.os, h.tape, h.output, Nat.le_trans h.size (by simp [World.setCell]), fun i hi hne => (Below.heap_setCell w p u i (fun e => by
   rcases hp with hp | hp
   · exact hne (by rw [e, hp])
   · omega)).trans (h.block i hi hne)⟩
end
theorem Blk.grownT {w w' : World} {g : Nat} {t : TypeId} {cs : Array Value} {row : Option Nat} (h : Blk w g t cs) (hg : w.grownBy w' row) (hne : some g ≠ row) : Blk w' g t cs := (hg.block g h.lt hne).trans h
end Go.Proofs.YtdnjdglekifhpaaGreat
