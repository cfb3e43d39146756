/- Package fix: sizes and sides; two limbs by one. -/
import Derived.Test.YtochabikpaoalaaGreatMath
import Derived.Test.YtochabikpaoalaaGreatDiv64
import Derived.Laws.Rows
import Derived.Test.YtochabikpaoalaaGreatApp
namespace Go.Proofs.YtochabikpaoalaaGreat
open Go.RowKit

set_option maxHeartbeats 400000 in
theorem size_any (a : Int) (h0 : -9223372036854775808 ≤ a) (h1 : a ≤ 9223372036854775807) (w : World) :
    Calls Tryz.prog 168 #[.int .i64 a] w fun e w' => e = .returned (.int .u64 (a.natAbs : Int)) ∧ w = w' := by
  by_cases h : a < 0
  · have hw : IntKind.u64.wrap a = a + 18446744073709551616 := by rw [IntKind.wrap_u64]; omega
    have hw2 : IntKind.u64.wrap (-(a + 18446744073709551616)) = -a := by rw [IntKind.wrap_u64]; omega
    have hr : (a.natAbs : Int) = -a := by omega
    rw [hr]
    clear hr
    go_enter Tryz.func168, Tryz.ntmps168
    go_wp2
    go_ret
    exact ⟨rfl, rfl⟩
  · have hw : IntKind.u64.wrap a = a := by rw [IntKind.wrap_u64]; omega
    have hr : (a.natAbs : Int) = a := by omega
    rw [hr]
    clear hr
    have h' : 0 ≤ a := by omega
    go_enter Tryz.func168, Tryz.ntmps168
    go_wp2
    go_ret
    exact ⟨rfl, rfl⟩
set_option maxHeartbeats 400000 in
theorem sided_any (neg : Bool) (n : Nat) (hn : n < W64) (w : World) :
    Calls Tryz.prog 173 #[.bool neg, .int .u64 n] w fun e w' => e = .returned (.tuple #[.int .i64 (fitV (sided neg n)), .int .i64 (fitE (sided neg n))]) ∧ w = w' := by
  unfold W64 at hn
  cases neg
  · by_cases h : n ≤ 9223372036854775807
    · obtain ⟨e1, e2⟩ := fit_in (z := sided false n) (by unfold sided; simp; omega)
      rw [e1, e2, show sided false n = (n : Int) from rfl]
      clear e1 e2
      have hd : decide ((n : Int) ≤ 9223372036854775807) = true := decide_eq_true (by omega)
      have hw : IntKind.i64.wrap (n : Int) = n := by rw [IntKind.wrap_i64]; omega
      clear h
      go_enter Tryz.func173, Tryz.ntmps173
      go_wp2
      go_ret2
      exact ⟨rfl, rfl⟩
    · obtain ⟨e1, e2⟩ := fit_out (z := sided false n) (by unfold sided; simp; omega)
      rw [e1, e2]
      clear e1 e2
      have hd : decide ((n : Int) ≤ 9223372036854775807) = false := decide_eq_false (by omega)
      clear h
      go_enter Tryz.func173, Tryz.ntmps173
      go_wp2
      go_ret2
      exact ⟨rfl, rfl⟩
  · by_cases h : n ≤ 9223372036854775808
    · obtain ⟨e1, e2⟩ := fit_in (z := sided true n) (by unfold sided; simp; omega)
      rw [e1, e2, show sided true n = -(n : Int) from rfl]
      clear e1 e2
      have hd : decide ((n : Int) ≤ 9223372036854775808) = true := decide_eq_true (by omega)
      have hw : IntKind.i64.wrap (IntKind.u64.wrap (-(n : Int))) = -(n : Int) := by rw [IntKind.wrap_i64, IntKind.wrap_u64]; omega
      clear h
      go_enter Tryz.func173, Tryz.ntmps173
      go_wp2
      go_ret2
      exact ⟨rfl, rfl⟩
    · obtain ⟨e1, e2⟩ := fit_out (z := sided true n) (by unfold sided; simp; omega)
      rw [e1, e2]
      clear e1 e2
      have hd : decide ((n : Int) ≤ 9223372036854775808) = false := decide_eq_false (by omega)
      clear h
      go_enter Tryz.func173, Tryz.ntmps173
      go_wp2
      go_ret2
      exact ⟨rfl, rfl⟩
set_option maxHeartbeats 1000000 in
theorem by_over (neg : Bool) (l0 l1 d : Nat) (h0 : l0 < W64) (h1 : l1 < W64) (hd : d < W64) (hp : 0 < d) (h : d ≤ l0) (w : World) :
    Calls Tryz.prog 169 #[.bool neg, .agg #[.int .u64 l0, .int .u64 l1], .int .u64 d] w fun e w' => e = .returned (.tuple #[.int .i64 0, .int .i64 2]) ∧ Below w.heap.size w w' := by
  unfold W64 at *
  go_enter Tryz.func169, Tryz.ntmps169
  go_wp2
  go_ret2
  exact ⟨rfl, (Below.refl _ w).alloc (Nat.le_refl _) _⟩
end Go.Proofs.YtochabikpaoalaaGreat
namespace Go.Proofs.YtochabikpaoalaaGreat
open Go.RowKit

set_option maxHeartbeats 2000000 in
theorem by_down (neg : Bool) (l0 l1 d q r lo : Nat) (hi m : Int) (b1 b2 b3 b4 : Bool) (w : World) (hl : decide (d ≤ l0) = false)
    (hD : ∀ w, Calls Tryz.prog 172 #[.int .u64 l0, .int .u64 l1, .int .u64 d] w fun e w' => e = .returned (.tuple #[.int .u64 (q : Int), .int .u64 (r : Int)]) ∧ ∃ n, w' = w.drewN n)
    (hA : ∀ w, (callFunc 115 #[.int .u64 r, .int .u64 r, .int .u64 0]).run Tryz.prog w = .ok (.value (.tuple #[.int .u64 (lo : Int), .int .u64 hi])) w)
    (h1 : decide ((0 : Int) < hi) = b1) (h2 : decide (d < lo) = b2) (heq : ∀ W, (Op.equalIn 10000 187 (.agg #[.int .u64 hi, .int .u64 (lo : Int)]) (.agg #[.int .u64 0, .int .u64 (d : Int)])).run Tryz.prog W = .ok b3 W)
    (hb : bits .and .u64 (q : Int) 1 = m) (h4 : (m == 1) = b4)
    (hup : (b1 = false ∧ b2 = false ∧ b3 = false) ∨ (b1 = false ∧ b2 = false ∧ b3 = true ∧ b4 = false)) (v e : Int)
    (hS : ∀ w, Calls Tryz.prog 173 #[.bool neg, .int .u64 q] w fun x w' => x = .returned (.tuple #[.int .i64 v, .int .i64 e]) ∧ w = w') :
    Calls Tryz.prog 169 #[.bool neg, .agg #[.int .u64 l0, .int .u64 l1], .int .u64 d] w fun x w' => x = .returned (.tuple #[.int .i64 v, .int .i64 e]) ∧ Below w.heap.size w w' := by
  rcases hup with ⟨rfl, rfl, rfl⟩ | ⟨rfl, rfl, rfl, rfl⟩
  all_goals
    go_enter Tryz.func169, Tryz.ntmps169
    go_wp2_with fail
    refine (hD _).mono ?_
    rintro e w' ⟨rfl, n, rfl⟩
    go_wp2_with fail
    refine (hS _).mono ?_
    rintro e w' ⟨rfl, rfl⟩
    go_wp2
    go_ret2
    exact ⟨rfl, ((below_drewN ((Below.refl _ w).alloc (Nat.le_refl _) _) n).alloc (by simp) _)⟩
set_option maxHeartbeats 2000000 in
theorem by_max (neg : Bool) (l0 l1 d q r lo : Nat) (hi m : Int) (b1 b2 b3 b4 : Bool) (w : World) (hl : decide (d ≤ l0) = false)
    (hD : ∀ w, Calls Tryz.prog 172 #[.int .u64 l0, .int .u64 l1, .int .u64 d] w fun e w' => e = .returned (.tuple #[.int .u64 (q : Int), .int .u64 (r : Int)]) ∧ ∃ n, w' = w.drewN n)
    (hA : ∀ w, (callFunc 115 #[.int .u64 r, .int .u64 r, .int .u64 0]).run Tryz.prog w = .ok (.value (.tuple #[.int .u64 (lo : Int), .int .u64 hi])) w)
    (h1 : decide ((0 : Int) < hi) = b1) (h2 : decide (d < lo) = b2) (heq : ∀ W, (Op.equalIn 10000 187 (.agg #[.int .u64 hi, .int .u64 (lo : Int)]) (.agg #[.int .u64 0, .int .u64 (d : Int)])).run Tryz.prog W = .ok b3 W)
    (hb : bits .and .u64 (q : Int) 1 = m) (h4 : (m == 1) = b4)
    (hup : b1 = true ∨ (b1 = false ∧ b2 = true) ∨ (b1 = false ∧ b2 = false ∧ b3 = true ∧ b4 = true)) (hmx : ((q : Int) == 18446744073709551615) = true) :
    Calls Tryz.prog 169 #[.bool neg, .agg #[.int .u64 l0, .int .u64 l1], .int .u64 d] w fun x w' => x = .returned (.tuple #[.int .i64 0, .int .i64 2]) ∧ Below w.heap.size w w' := by
  rcases hup with rfl | ⟨rfl, rfl⟩ | ⟨rfl, rfl, rfl, rfl⟩
  all_goals
    go_enter Tryz.func169, Tryz.ntmps169
    go_wp2_with fail
    refine (hD _).mono ?_
    rintro e w' ⟨rfl, n, rfl⟩
    go_wp2
    go_ret2
    exact ⟨rfl, ((below_drewN ((Below.refl _ w).alloc (Nat.le_refl _) _) n).alloc (by simp) _)⟩
set_option maxHeartbeats 2000000 in
theorem by_up (neg : Bool) (l0 l1 d q r lo : Nat) (hi m : Int) (b1 b2 b3 b4 : Bool) (w : World) (hl : decide (d ≤ l0) = false)
    (hD : ∀ w, Calls Tryz.prog 172 #[.int .u64 l0, .int .u64 l1, .int .u64 d] w fun e w' => e = .returned (.tuple #[.int .u64 (q : Int), .int .u64 (r : Int)]) ∧ ∃ n, w' = w.drewN n)
    (hA : ∀ w, (callFunc 115 #[.int .u64 r, .int .u64 r, .int .u64 0]).run Tryz.prog w = .ok (.value (.tuple #[.int .u64 (lo : Int), .int .u64 hi])) w)
    (h1 : decide ((0 : Int) < hi) = b1) (h2 : decide (d < lo) = b2) (heq : ∀ W, (Op.equalIn 10000 187 (.agg #[.int .u64 hi, .int .u64 (lo : Int)]) (.agg #[.int .u64 0, .int .u64 (d : Int)])).run Tryz.prog W = .ok b3 W)
    (hb : bits .and .u64 (q : Int) 1 = m) (h4 : (m == 1) = b4)
    (hup : b1 = true ∨ (b1 = false ∧ b2 = true) ∨ (b1 = false ∧ b2 = false ∧ b3 = true ∧ b4 = true)) (hmx : ((q : Int) == 18446744073709551615) = false) (v e : Int) (q' : Nat) (hw : IntKind.u64.wrap ((q : Int) + 1) = (q' : Int))
    (hS : ∀ w, Calls Tryz.prog 173 #[.bool neg, .int .u64 (q' : Int)] w fun x w' => x = .returned (.tuple #[.int .i64 v, .int .i64 e]) ∧ w = w') :
    Calls Tryz.prog 169 #[.bool neg, .agg #[.int .u64 l0, .int .u64 l1], .int .u64 d] w fun x w' => x = .returned (.tuple #[.int .i64 v, .int .i64 e]) ∧ Below w.heap.size w w' := by
  rcases hup with rfl | ⟨rfl, rfl⟩ | ⟨rfl, rfl, rfl, rfl⟩
  all_goals
    go_enter Tryz.func169, Tryz.ntmps169
    go_wp2_with fail
    refine (hD _).mono ?_
    rintro e w' ⟨rfl, n, rfl⟩
    go_wp2_with fail
    refine (hS _).mono ?_
    rintro e w' ⟨rfl, rfl⟩
    go_wp2
    go_ret2
    exact ⟨rfl, ((below_drewN ((Below.refl _ w).alloc (Nat.le_refl _) _) n).alloc (by simp) _)⟩

theorem by_in (neg : Bool) (l0 l1 d : Nat) (h0 : l0 < W64) (h1 : l1 < W64) (hd : d < W64) (h : l0 < d) (w : World) :
    Calls Tryz.prog 169 #[.bool neg, .agg #[.int .u64 l0, .int .u64 l1], .int .u64 d] w fun e w' => e = .returned (.tuple #[.int .i64 (fitV (sided neg (rne (l0 * W64 + l1) d))), .int .i64 (fitE (sided neg (rne (l0 * W64 + l1) d)))]) ∧ Below w.heap.size w w' := by
  have hD := fun w => div64_any l0 l1 d h1 hd h w
  have hq : (l0 * W64 + l1) / d < W64 := by
    rw [Nat.div_lt_iff_lt_mul (by omega)]
    have : (l0 + 1) * W64 ≤ d * W64 := Nat.mul_le_mul_right _ h
    rw [Nat.mul_comm W64 d]; unfold W64 at *; omega
  have hr : (l0 * W64 + l1) % d < d := Nat.mod_lt _ (by omega)
  rw [rne]
  generalize (l0 * W64 + l1) / d = q at *
  generalize (l0 * W64 + l1) % d = r at *
  have hA := fun w => run_Add64_ex r r 0 ((r + r) % W64) ((r + r) / W64) 0 (by simp) (Nat.zero_le _) (by rw [Nat.add_zero]) (by rw [Nat.add_zero]) w
  have hsk : 2 * r = (r + r) / W64 * W64 + (r + r) % W64 := by unfold W64; omega
  have hlo : (r + r) % W64 < W64 := Nat.mod_lt _ W64_pos
  generalize (r + r) % W64 = lo at *
  generalize (r + r) / W64 = hi at *
  have hl : decide (d ≤ l0) = false := decide_eq_false (by omega)
  have hE := fun W => eql_pair hi lo 0 d W
  have hb : bits .and .u64 (q : Int) 1 = ((q % 2 : Nat) : Int) := by
    have := u64_and_nat q 1 (by unfold W64 at hq; exact hq) (by omega)
    rw [Nat.and_one_is_mod] at this; exact this
  have key : (d < 2 * r ∨ (2 * r = d ∧ q % 2 = 1)) ↔ (0 < hi ∨ (hi = 0 ∧ d < lo) ∨ (hi = 0 ∧ lo = d ∧ q % 2 = 1)) := by
    rcases Nat.eq_zero_or_pos hi with h0 | h0
    · subst h0; omega
    · have : W64 ≤ hi * W64 := Nat.le_mul_of_pos_left _ h0
      omega
  by_cases hup : 0 < hi ∨ (hi = 0 ∧ d < lo) ∨ (hi = 0 ∧ lo = d ∧ q % 2 = 1)
  · rw [if_pos (key.2 hup)]
    have hup' : decide ((0 : Int) < (hi : Int)) = true ∨ (decide ((0 : Int) < (hi : Int)) = false ∧ decide (d < lo) = true) ∨ (decide ((0 : Int) < (hi : Int)) = false ∧ decide (d < lo) = false ∧ (((hi : Int) == 0) && ((lo : Int) == (d : Int))) = true ∧ (((q % 2 : Nat) : Int) == 1) = true) := by
      simp only [decide_eq_true_eq, decide_eq_false_iff_not, Bool.and_eq_true, beq_iff_eq]; omega
    by_cases hm : q = 18446744073709551615
    · have hbig := sided_big (neg := neg) (n := q + 1) (Nat.le_of_eq (by rw [hm]))
      obtain ⟨e1, e2⟩ := fit_out hbig
      rw [e1, e2]
      exact by_max neg l0 l1 d q r lo hi _ _ _ _ _ w hl hD hA rfl rfl hE hb rfl hup' (by rw [beq_iff_eq]; omega)
    · have hlt : q + 1 < W64 := by unfold W64 at *; omega
      exact by_up neg l0 l1 d q r lo hi _ _ _ _ _ w hl hD hA rfl rfl hE hb rfl hup' (by rw [beq_eq_false_iff_ne]; omega) _ _ (q + 1) (by rw [IntKind.wrap_u64]; unfold W64 at hlt; omega) (fun w => sided_any neg (q + 1) hlt w)
  · rw [if_neg (fun hh => hup (key.1 hh))]
    have hup' : (decide ((0 : Int) < (hi : Int)) = false ∧ decide (d < lo) = false ∧ (((hi : Int) == 0) && ((lo : Int) == (d : Int))) = false) ∨ (decide ((0 : Int) < (hi : Int)) = false ∧ decide (d < lo) = false ∧ (((hi : Int) == 0) && ((lo : Int) == (d : Int))) = true ∧ (((q % 2 : Nat) : Int) == 1) = false) := by
      simp only [decide_eq_false_iff_not, Bool.and_eq_true, Bool.and_eq_false_iff, beq_iff_eq, beq_eq_false_iff_ne]; omega
    exact by_down neg l0 l1 d q r lo hi _ _ _ _ _ w hl hD hA rfl rfl hE hb rfl hup' _ _ (fun w => sided_any neg q hq w)
theorem by_any (neg : Bool) (l0 l1 d : Nat) (h0 : l0 < W64) (h1 : l1 < W64) (hd : d < W64) (hp : 0 < d) (w : World) :
    Calls Tryz.prog 169 #[.bool neg, .agg #[.int .u64 l0, .int .u64 l1], .int .u64 d] w fun e w' => e = .returned (.tuple #[.int .i64 (fitV (sided neg (rne (l0 * W64 + l1) d))), .int .i64 (fitE (sided neg (rne (l0 * W64 + l1) d)))]) ∧ Below w.heap.size w w' := by
  by_cases h : l0 < d
  · exact by_in neg l0 l1 d h0 h1 hd h w
  · have hbig : 18446744073709551616 ≤ rne (l0 * W64 + l1) d := by
      refine Nat.le_trans ?_ (rne_ge _ _)
      have : d * W64 ≤ l0 * W64 := Nat.mul_le_mul_right _ (by omega)
      have h3 : W64 * d ≤ l0 * W64 + l1 := by rw [Nat.mul_comm]; exact Nat.le_trans this (Nat.le_add_right _ _)
      exact (Nat.le_div_iff_mul_le hp).2 h3
    obtain ⟨e1, e2⟩ := fit_out (sided_big (neg := neg) hbig)
    rw [e1, e2]
    exact by_over neg l0 l1 d h0 h1 hd hp (by omega) w
end Go.Proofs.YtochabikpaoalaaGreat
namespace Go.Proofs.YtochabikpaoalaaGreat
open Go.RowKit

theorem pow_le40 (f : Nat) (h : f ≤ 40) : 1 ≤ 2 ^ f ∧ 2 ^ f ≤ 1099511627776 := ⟨Nat.pow_pos (by omega), Nat.pow_le_pow_right (by omega) h⟩
end Go.Proofs.YtochabikpaoalaaGreat
namespace Go.Proofs.YtochabikpaoalaaGreat
open Go.RowKit
/-- a number times another one by a third one, before it is fitted -/
def scaleZ (a n d : Int) : Int := sided (decide (a < 0) != decide (n < 0)) (rne (a.natAbs * n.natAbs) d.toNat)
set_option maxHeartbeats 1000000 in
theorem fscale_any (a b d : Int) (hd : 1 ≤ d) (hd1 : d ≤ 9223372036854775807) (ha0 : -9223372036854775808 ≤ a) (ha1 : a ≤ 9223372036854775807) (hb0 : -9223372036854775808 ≤ b) (hb1 : b ≤ 9223372036854775807) (w : World) :
    Calls Tryz.prog 164 #[.int .i64 a, .int .i64 b, .int .i64 d] w fun e w' => e = .returned (.tuple #[.int .i64 (fitV (scaleZ a b d)), .int .i64 (fitE (scaleZ a b d))]) ∧ Below w.heap.size w w' := by
  have hSa := fun w => size_any a ha0 ha1 w
  have hSb := fun w => size_any b hb0 hb1 w
  have hxa : a.natAbs < W64 := by unfold W64; omega
  have hxb : b.natAbs < W64 := by unfold W64; omega
  have hM := fun w => mul64_any a.natAbs b.natAbs hxa hxb w
  have hsum : a.natAbs * b.natAbs / W64 * W64 + a.natAbs * b.natAbs % W64 = a.natAbs * b.natAbs := by rw [Nat.mul_comm]; exact Nat.div_add_mod _ _
  have h0 : a.natAbs * b.natAbs / W64 < W64 := by
    rw [Nat.div_lt_iff_lt_mul W64_pos]
    exact Nat.mul_lt_mul'' hxa hxb
  have hB := by_any (decide (a < 0) != decide (b < 0)) (a.natAbs * b.natAbs / W64) (a.natAbs * b.natAbs % W64) d.toNat h0 (Nat.mod_lt _ W64_pos) (by unfold W64; omega) (by omega)
  rw [hsum] at hB
  have hz : sided (decide (a < 0) != decide (b < 0)) (rne (a.natAbs * b.natAbs) d.toNat) = scaleZ a b d := rfl
  rw [hz] at hB
  clear hz hsum h0 hxa hxb
  generalize scaleZ a b d = z at *
  generalize a.natAbs * b.natAbs / W64 = hi at *
  generalize a.natAbs * b.natAbs % W64 = lo at *
  generalize a.natAbs = x at *
  generalize b.natAbs = y at *
  obtain ⟨k, rfl⟩ := Int.eq_ofNat_of_zero_le (show 0 ≤ d by omega)
  rw [Int.toNat_natCast] at hB
  have hsh : IntKind.u64.wrap (k : Int) = (k : Int) := by rw [IntKind.wrap_u64]; omega
  have hd0 : decide ((k : Int) < 1) = false := decide_eq_false (by omega)
  clear ha0 ha1 hb0 hb1 hd hd1
  have hs4 : (decide (a < 0) = true ∧ decide (b < 0) = true) ∨ (decide (a < 0) = true ∧ decide (b < 0) = false) ∨ (decide (a < 0) = false ∧ decide (b < 0) = true) ∨ (decide (a < 0) = false ∧ decide (b < 0) = false) := by
    simp only [decide_eq_true_eq, decide_eq_false_iff_not]; omega
  rcases hs4 with ⟨h1, h2⟩ | ⟨h1, h2⟩ | ⟨h1, h2⟩ | ⟨h1, h2⟩
  all_goals
    have hB : ∀ w, Calls Tryz.prog 169 #[.bool (decide (a < 0) != decide (b < 0)), .agg #[.int .u64 hi, .int .u64 lo], .int .u64 k] w fun e w' => e = .returned (.tuple #[.int .i64 (fitV z), .int .i64 (fitE z)]) ∧ Below w.heap.size w w' := hB
    rw [h1, h2] at hB
    go_enter Tryz.func164, Tryz.ntmps164
    go_wp2_with fail
    refine (hSa _).mono ?_
    rintro e w' ⟨rfl, rfl⟩
    go_wp2_with fail
    refine (hSb _).mono ?_
    rintro e w' ⟨rfl, rfl⟩
    go_wp2_with fail
    refine (hM _).mono ?_
    rintro e w' ⟨rfl, rfl⟩
    go_wp2_with fail
    refine (hB _).mono ?_
    rintro e w' ⟨rfl, b1⟩
    go_wp2
    go_ret2
    exact ⟨rfl, b1⟩
end Go.Proofs.YtochabikpaoalaaGreat
