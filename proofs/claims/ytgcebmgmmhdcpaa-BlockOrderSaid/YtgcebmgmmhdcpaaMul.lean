/- nat.Mul: the product of two numbers. -/
import Derived.Test.YtgcebmgmmhdcpaaArr
import Derived.Test.YtgcebmgmmhdcpaaBits
import Derived.Test.YtgcebmgmmhdcpaaNat1
import Derived.Outline
namespace Go.Proofs.Ytgcebmgmmhdcpaa
open Go.RowKit

set_option maxRecDepth 100000 in
set_option maxHeartbeats 2000000 in
theorem mulL_any (va vb : Value) (a b : List Nat) (w : World) (ha : IsL w va a) (hb : IsL w vb b) (hla : a.length ≤ 1000000) (hlb : b.length ≤ 1000000) :
    Calls Try.prog 35 #[va, vb] w fun e w' => ∃ v', e = .returned v' ∧ IsN w' v' (num a * num b) ∧ Below w.heap.size w w' := by
  obtain ⟨A, ca, rfl, hac, hca, hba, hra⟩ := ha
  obtain ⟨B, cb, rfl, hbc, hcb, hbb, hrb⟩ := hb
  have hmk := run_make_u64 57 Try.underlying57 (a.length + b.length) ((a.length : Int) + (b.length : Int)) (by omega) (by omega)
  have a0 := Arr.new w (zeros (a.length + b.length))
  have hB0 : Below w.heap.size w (w.alloc (.cells (us (zeros (a.length + b.length))).toArray 72)) := (Below.refl _ w).alloc (Nat.le_refl _) _
  go_enter Try.func35, Try.ntmps35
  go_wp2
  go_loopw [22] (fun i wr => ∃ (k : Nat) (l : List Nat), k ≤ a.length ∧ i = .int .i64 k ∧ Arr wr w.heap.size l ∧ Hid (l.length = a.length + b.length) ∧ Bd l ∧ Hid (num l = num (a.take k) * num b) ∧ Hid (∀ j, k + b.length ≤ j → lat l j = 0) ∧ Below w.heap.size w wr) (fun i _ => a.length - (intOf i).toNat)
  case atStart => exact ⟨0, zeros (a.length + b.length), Nat.zero_le _, rfl, a0, zeros_len _, Bd.zeros _, Lib.hid (by rw [num_zeros]; simp [num]), Lib.hid (fun j _ => lat_zeros _ _), hB0⟩
  case round =>
    obtain ⟨k, l, hk, rfl, hA, hlen, hbl, hnum, hz, hB⟩ := hrel
    by_cases hlt : k < a.length
    · obtain ⟨ad, rfl, _, hxc⟩ := us_cell (hra.below hB) hlt
      have hx64 := hba.lat k
      obtain ⟨x, hx⟩ : ∃ x, x = lat a k := ⟨_, rfl⟩
      rw [← hx] at hxc hx64
      have Hx := Lib.hid hx
      clear hx
      go_wp2
      go_loopw [8, 29] (fun cy i wi => ∃ (m c : Nat) (l' : List Nat), m ≤ b.length ∧ cy = .int .u64 c ∧ i = .int .i64 m ∧ c < W64 ∧ Arr wi w.heap.size l' ∧ Hid (l'.length = a.length + b.length) ∧ Bd l' ∧ Hid (num l' + W64 ^ (k + m) * c = num (a.take k) * num b + W64 ^ k * (x * num (b.take m))) ∧ Hid (∀ j, k + b.length ≤ j → lat l' j = 0) ∧ Below w.heap.size w wi) (fun _ i _ => b.length - (intOf i).toNat)
      case atStart => exact ⟨0, 0, l, Nat.zero_le _, rfl, rfl, W64_pos, hA, hlen, hbl, Lib.hid (by rw [hnum.out]; simp [num]), hz, hB⟩
      case round =>
        obtain ⟨m, c, l', hm, rfl, rfl, hc64, hA', hlen', hbl', hinv, hz', hB'⟩ := hrel
        by_cases hmt : m < b.length
        · obtain ⟨bd, rfl, _, hyc⟩ := us_cell (hrb.below hB') hmt
          have hy64 := hbb.lat m
          obtain ⟨y, hy⟩ : ∃ y, y = lat b m := ⟨_, rfl⟩
          rw [← hy] at hyc hy64
          have hoc := hA'.cell (i := k + m) (by rw [hlen'.out]; omega)
          have hof := hA'.frozen (k + m)
          have ho64 := hbl'.lat (k + m)
          obtain ⟨o, ho⟩ : ∃ o, o = lat l' (k + m) := ⟨_, rfl⟩
          rw [← ho] at hoc ho64
          obtain ⟨hi, ehi⟩ : ∃ hi, hi = x * y / W64 := ⟨_, rfl⟩
          obtain ⟨lo, elo⟩ : ∃ lo, lo = x * y % W64 := ⟨_, rfl⟩
          obtain ⟨s1, es1⟩ : ∃ s1, s1 = (lo + o) % W64 := ⟨_, rfl⟩
          obtain ⟨c1, ec1⟩ : ∃ c1, c1 = (lo + o) / W64 := ⟨_, rfl⟩
          obtain ⟨h1, eh1⟩ : ∃ h1, h1 = hi + c1 := ⟨_, rfl⟩
          obtain ⟨s2, es2⟩ : ∃ s2, s2 = (s1 + c) % W64 := ⟨_, rfl⟩
          obtain ⟨c2, ec2⟩ : ∃ c2, c2 = (s1 + c) / W64 := ⟨_, rfl⟩
          obtain ⟨r, er⟩ : ∃ r, r = h1 + c2 := ⟨_, rfl⟩
          obtain ⟨d1, d2, d3, d4, d5, d6⟩ := mul_digit hx64 hy64 ho64 hc64 ehi elo es1 ec1 eh1 es2 ec2 er
          have M := Lib.hid (fun W => mul64_ex x y hi lo hx64 hy64 ehi elo W)
          have r1 := fun W => run_Add64_ex lo o 0 s1 c1 0 rfl (by omega) es1 ec1 W
          have r2 := fun W => run_Add64_ex s1 c 0 s2 c2 0 rfl (by omega) es2 ec2 W
          have w1 : IntKind.u64.wrap ((hi : Int) + (c1 : Int)) = (h1 : Int) := by
            rw [IntKind.wrap_u64, eh1]; unfold W64 at d3; omega
          have w2 : IntKind.u64.wrap ((h1 : Int) + (c2 : Int)) = (r : Int) := by
            rw [IntKind.wrap_u64, er]; unfold W64 at d2; omega
          have fin := Lib.hid (mul_inner (i := k) (by rw [hlen'.out]; omega) ho hinv.out (by rw [← hy]; exact d1))
          have D := Lib.hid (And.intro d2 (And.intro d4 d1))
          clear ehi elo es1 ec1 eh1 es2 ec2 er d1 d2 d3 d4 d5 d6 hx64 hy64 ho64 hc64 ho hy
          go_wp2_with ((with_reducible refine (M.out _).mono ?_); rintro e w' ⟨rfl, rfl⟩)
          refine ⟨⟨m + 1, r, l'.set (k + m) s2, by omega, rfl, by go_num, D.out.1, hA'.set _ _, by rw [Hid, List.length_set]; exact hlen'.out, hbl'.set _ D.out.2.1, fin, ?_, hB'.setCell (p := ⟨w.heap.size, k + m, none⟩) (Nat.le_refl _) _⟩, by simp [intOf]; omega⟩
          refine Lib.hid (fun j hj => ?_)
          rw [lat_set, if_neg (by omega)]
          exact hz'.out j hj
        · obtain rfl : m = b.length := by omega
          have hi2 : k + b.length < l'.length := by rw [hlen'.out]; omega
          have hoc := hA'.cell hi2
          have hof := hA'.frozen (k + b.length)
          have fin := mul_outer (a := a) (b := b) (i := k) (c := c) hi2 (hz'.out _ (Nat.le_refl _)) (by have := hinv.out; rwa [List.take_length, Hx.out] at this)
          have Fin := Lib.hid fin
          have C := Lib.hid hc64
          clear fin hi2 hc64
          go_wp2
          refine ⟨⟨k + 1, l'.set (k + b.length) c, by omega, by go_num, hA'.set _ _, by rw [Hid, List.length_set]; exact hlen'.out, hbl'.set _ C.out, Fin, ?_, hB'.setCell (p := ⟨w.heap.size, k + b.length, none⟩) (Nat.le_refl _) _⟩, by simp [intOf]; omega⟩
          refine Lib.hid (fun j hj => ?_)
          rw [lat_set, if_neg (by omega)]
          exact hz'.out j (by omega)
    · obtain rfl : k = a.length := by omega
      have hres := hA.isL hbl (by rw [hlen.out]; omega)
      rw [hlen.out] at hres
      have N := hnum.out
      rw [List.take_length] at N
      have N' := Lib.hid N
      clear N
      go_wp2_with ((with_reducible refine (bare_any _ _ _ hres).mono ?_); rintro e w' ⟨r, rfl, hr, rfl⟩)
      go_ret
      exact ⟨_, rfl, by rw [← N'.out]; exact hr, hB⟩

theorem mul_any (va vb : Value) (a b : Nat) (w : World) (ha : IsN w va a) (hb : IsN w vb b) (hla : (limbs a).length ≤ 1000000) (hlb : (limbs b).length ≤ 1000000) :
    Calls Try.prog 35 #[va, vb] w fun e w' => ∃ v', e = .returned v' ∧ IsN w' v' (a * b) ∧ Below w.heap.size w w' := by
  have := mulL_any va vb _ _ w ha hb hla hlb
  rwa [num_limbs, num_limbs] at this
end Go.Proofs.Ytgcebmgmmhdcpaa
