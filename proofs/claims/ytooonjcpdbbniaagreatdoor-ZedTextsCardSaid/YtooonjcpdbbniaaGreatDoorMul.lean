/- nat.Mul: the product of two numbers. -/
import Derived.Test.YtooonjcpdbbniaaGreatDoorApp
import Derived.Test.YtooonjcpdbbniaaGreatDoorRef2
import Derived.Outline
import Derived.RangeFuncNested
import Derived.RangeFuncBound
import Derived.RangeFuncCalls
import Derived.RangeFuncLeaves
import Derived.Shelf.Abstract
import Derived.Shelf.RegionOpen
import Derived.OwnWalkIn
import Derived.TacticsInMore
import Derived.LoopNIn
import Derived.LoopIn
import Derived.BigQuiet
import Derived.RangeFuncBox
import Derived.RangeFuncFrom
namespace Go.Proofs.YtooonjcpdbbniaaGreatDoor
open Go.RowKit

set_option maxRecDepth 100000 in
set_option maxHeartbeats 2000000 in
theorem mulL_any (va vb : Value) (a b : List Nat) (w : World) (ha : IsL w va a) (hb : IsL w vb b) (hla : a.length ≤ 1000000) (hlb : b.length ≤ 1000000) :
    Calls Tryz.prog 40 #[va, vb] w fun e w' => ∃ v', e = .returned v' ∧ IsN w' v' (num a * num b) ∧ Below w.heap.size w w' := by
  obtain ⟨A, ca, rfl, hac, hca, hba, hra⟩ := ha
  obtain ⟨B, cb, rfl, hbc, hcb, hbb, hrb⟩ := hb
  have hmk := run_make_u64 23 Tryz.underlying23 (a.length + b.length) ((a.length : Int) + (b.length : Int)) (by omega) (by omega)
  have a0 := Arr.new w (zeros (a.length + b.length))
  have hB0 : Below w.heap.size w (w.alloc (.cells (us (zeros (a.length + b.length))).toArray 44)) := (Below.refl _ w).alloc (Nat.le_refl _) _
  go_enter Tryz.func40, Tryz.ntmps40
  go_wp2
  go_loopw [22] (fun i wr => ∃ (k : Nat) (l : List Nat), k ≤ a.length ∧ i = .int .i64 k ∧ Arr wr w.heap.size l ∧ Hid (l.length = a.length + b.length) ∧ Bd l ∧ Hid (num l = num (a.take k) * num b) ∧ Hid (∀ j, k + b.length ≤ j → lat l j = 0) ∧ Below w.heap.size w wr) (fun i _ => a.length - (intOf i).toNat)
  case atStart => exact ⟨0, zeros (a.length + b.length), Nat.zero_le _, rfl, a0, zeros_len _, Bd.zeros _, Lib.hid (by rw [num_zeros]; simp [num]), Lib.hid (fun j _ => lat_zeros _ _), hB0⟩
  case round =>
    obtain ⟨k, l, hk, rfl, hA, hlen, hbl, hnum, hz, hB⟩ := hrel
    by_cases hlt : k < a.length
    · obtain ⟨ad, rfl, _, hxc⟩ := us_cell (hra.below hB) hlt
      have hx64 := hba.lat k
      obtain ⟨x, hx⟩ : ∃ x, x = lat a k := ⟨_, rfl⟩
      rw [← hx] at hxc hx64
      have Hx := Lib.hid hx
      clear hx
      go_wp2
      go_loopw [8, 29] (fun cy i wi => ∃ (m c : Nat) (l' : List Nat), m ≤ b.length ∧ cy = .int .u64 c ∧ i = .int .i64 m ∧ c < W64 ∧ Arr wi w.heap.size l' ∧ Hid (l'.length = a.length + b.length) ∧ Bd l' ∧ Hid (num l' + W64 ^ (k + m) * c = num (a.take k) * num b + W64 ^ k * (x * num (b.take m))) ∧ Hid (∀ j, k + b.length ≤ j → lat l' j = 0) ∧ Below w.heap.size w wi) (fun _ i _ => b.length - (intOf i).toNat)
      case atStart => exact ⟨0, 0, l, Nat.zero_le _, rfl, rfl, W64_pos, hA, hlen, hbl, Lib.hid (by rw [hnum.out]; simp [num]), hz, hB⟩
      case round =>
        obtain ⟨m, c, l', hm, rfl, rfl, hc64, hA', hlen', hbl', hinv, hz', hB'⟩ := hrel
        by_cases hmt : m < b.length
        · obtain ⟨bd, rfl, _, hyc⟩ := us_cell (hrb.below hB') hmt
          have hy64 := hbb.lat m
          obtain ⟨y, hy⟩ : ∃ y, y = lat b m := ⟨_, rfl⟩
          rw [← hy] at hyc hy64
          have hoc := hA'.cell (i := k + m) (by rw [hlen'.out]; omega)
          have hof := hA'.frozen (k + m)
          have ho64 := hbl'.lat (k + m)
          obtain ⟨o, ho⟩ : ∃ o, o = lat l' (k + m) := ⟨_, rfl⟩
          rw [← ho] at hoc ho64
          obtain ⟨hi, ehi⟩ : ∃ hi, hi = x * y / W64 := ⟨_, rfl⟩
          obtain ⟨lo, elo⟩ : ∃ lo, lo = x * y % W64 := ⟨_, rfl⟩
          obtain ⟨s1, es1⟩ : ∃ s1, s1 = (lo + o) % W64 := ⟨_, rfl⟩
          obtain ⟨c1, ec1⟩ : ∃ c1, c1 = (lo + o) / W64 := ⟨_, rfl⟩
          obtain ⟨h1, eh1⟩ : ∃ h1, h1 = hi + c1 := ⟨_, rfl⟩
          obtain ⟨s2, es2⟩ : ∃ s2, s2 = (s1 + c) % W64 := ⟨_, rfl⟩
          obtain ⟨c2, ec2⟩ : ∃ c2, c2 = (s1 + c) / W64 := ⟨_, rfl⟩
          obtain ⟨r, er⟩ : ∃ r, r = h1 + c2 := ⟨_, rfl⟩
          obtain ⟨d1, d2, d3, d4, d5, d6⟩ := mul_digit hx64 hy64 ho64 hc64 ehi elo es1 ec1 eh1 es2 ec2 er
          have M := Lib.hid (fun W => mul64_ex x y hi lo hx64 hy64 ehi elo W)
          have r1 := fun W => run_Add64_ex lo o 0 s1 c1 0 rfl (by omega) es1 ec1 W
          have r2 := fun W => run_Add64_ex s1 c 0 s2 c2 0 rfl (by omega) es2 ec2 W
          have w1 : IntKind.u64.wrap ((hi : Int) + (c1 : Int)) = (h1 : Int) := by
            rw [IntKind.wrap_u64, eh1]; unfold W64 at d3; omega
          have w2 : IntKind.u64.wrap ((h1 : Int) + (c2 : Int)) = (r : Int) := by
            rw [IntKind.wrap_u64, er]; unfold W64 at d2; omega
          have fin := Lib.hid (mul_inner (i := k) (by rw [hlen'.out]; omega) ho hinv.out (by rw [← hy]; exact d1))
          have D := Lib.hid (And.intro d2 (And.intro d4 d1))
          clear ehi elo es1 ec1 eh1 es2 ec2 er d1 d2 d3 d4 d5 d6 hx64 hy64 ho64 hc64 ho hy
          go_wp2_with ((with_reducible refine (M.out _).mono ?_); rintro e w' ⟨rfl, rfl⟩)
          refine ⟨⟨m + 1, r, l'.set (k + m) s2, by omega, rfl, by go_num, D.out.1, hA'.set _ _, by rw [Hid, List.length_set]; exact hlen'.out, hbl'.set _ D.out.2.1, fin, ?_, hB'.setCell (p := ⟨w.heap.size, k + m, none⟩) (Nat.le_refl _) _⟩, by simp [intOf]; omega⟩
          refine Lib.hid (fun j hj => ?_)
          rw [lat_set, if_neg (by omega)]
          exact hz'.out j hj
        · obtain rfl : m = b.length := by omega
          have hi2 : k + b.length < l'.length := by rw [hlen'.out]; omega
          have hoc := hA'.cell hi2
          have hof := hA'.frozen (k + b.length)
          have fin := mul_outer (a := a) (b := b) (i := k) (c := c) hi2 (hz'.out _ (Nat.le_refl _)) (by have := hinv.out; rwa [List.take_length, Hx.out] at this)
          have Fin := Lib.hid fin
          have C := Lib.hid hc64
          clear fin hi2 hc64
          go_wp2
          refine ⟨⟨k + 1, l'.set (k + b.length) c, by omega, by go_num, hA'.set _ _, by rw [Hid, List.length_set]; exact hlen'.out, hbl'.set _ C.out, Fin, ?_, hB'.setCell (p := ⟨w.heap.size, k + b.length, none⟩) (Nat.le_refl _) _⟩, by simp [intOf]; omega⟩
          refine Lib.hid (fun j hj => ?_)
          rw [lat_set, if_neg (by omega)]
          exact hz'.out j (by omega)
    · obtain rfl : k = a.length := by omega
      have hres := hA.isL hbl (by rw [hlen.out]; omega)
      rw [hlen.out] at hres
      have N := hnum.out
      rw [List.take_length] at N
      have N' := Lib.hid N
      clear N
      go_wp2_with ((with_reducible refine (bare_any _ _ _ hres).mono ?_); rintro e w' ⟨r, rfl, hr, rfl⟩)
      go_ret
      exact ⟨_, rfl, by rw [← N'.out]; exact hr, hB⟩

theorem mul_any (va vb : Value) (a b : Nat) (w : World) (ha : IsN w va a) (hb : IsN w vb b) (hla : (limbs a).length ≤ 1000000) (hlb : (limbs b).length ≤ 1000000) :
    Calls Tryz.prog 40 #[va, vb] w fun e w' => ∃ v', e = .returned v' ∧ IsN w' v' (a * b) ∧ Below w.heap.size w w' := by
  have := mulL_any va vb _ _ w ha hb hla hlb
  rwa [num_limbs, num_limbs] at this
end Go.Proofs.YtooonjcpdbbniaaGreatDoor
namespace Go.Proofs.YtooonjcpdbbniaaGreatDoor
open Go.RowKit Go.Shelf
attribute [local go_sem] Oper.semAt_some

abbrev Idx (n : Nat) := { i : Nat // i < n }
/-- what has come when k rounds of 'backward' over n places are over -/
def back (n k : Nat) : List Nat := (List.range k).map fun j => n - 1 - j
theorem back_succ (n k : Nat) : back n (k + 1) = back n k ++ [n - 1 - k] := by simp [back, List.range_succ]
theorem back_length (n k : Nat) : (back n k).length = k := by simp [back]

set_option maxRecDepth 100000 in
set_option maxHeartbeats 1000000 in
theorem back1_in (F : Fence) (n : Nat) (h7 : F.fn 88) (hro : F.round = none) (hn : 1 ≤ n) (lr Bs n₀ c : Nat) (A : Option Addr) (l : List Nat) (hl : l.length ≤ 9223372036854775807) (J Jx : List (Idx l.length) → World → Prop)
    (hY : ∀ pre x W, J pre W → pre.length < l.length → YieldAt F (n - 1) Tryz.prog lr #[.int .i64 (x.1 : Nat), .int .u64 (lat l x.1 : Nat)] W fun e W' =>
      (e = .returned (.bool true) ∧ J (pre ++ [x]) W' ∧ Below n₀ W W') ∨ (e = .returned (.bool false) ∧ Jx (pre ++ [x]) W'))
    (W : World) (hBs : W.cell? ⟨Bs, 0, none⟩ = some (.slice A l.length c)) (hB : Bs < n₀) (hr : Reads W n₀ 1 A l.length (us l)) (h0 : J [] W) :
    CallsIn F n Tryz.prog 88 #[.func (.yield lr) #[] #[], .pointer (some ⟨Bs, 0, none⟩)] W fun e W' => (∃ v, e = .returned v) ∧
      ((∃ ys : List (Idx l.length), ys.map (·.1) = back l.length l.length ∧ J ys W') ∨ (∃ pre : List (Idx l.length), (∃ k, k ≤ l.length ∧ pre.map (·.1) = back l.length k) ∧ Jx pre W')) := by
  refine callsIn_of_wp Tryz.func88 rfl h7 ?_ hro
  simp only [Tryz.ntmps88, List.size_toArray, List.length_cons, List.length_nil, Nat.reduceAdd, Nat.reduceSub, Array.replicate_succ, Array.replicate_zero, List.push_toArray, List.append_toArray, List.nil_append, List.cons_append]
  gi_wp2
  gi_loopw [3] (fun i wr => ∃ (k : Nat) (pre : List (Idx l.length)), k ≤ l.length ∧ i = .int .i64 ((l.length : Int) - 1 - (k : Int)) ∧ Hid (pre.map (·.1) = back l.length k) ∧ J pre wr ∧ Below n₀ W wr)
    (fun i _ => (intOf i + 1).toNat)
  case atStart => exact ⟨0, [], Nat.zero_le _, by simp, Lib.hid rfl, h0, Below.refl _ _⟩
  case round =>
    obtain ⟨k, pre, hk, rfl, hpre, hJs, hnx⟩ := hrel
    by_cases hlt : k < l.length
    · have hpl : pre.length < l.length := by have := congrArg List.length hpre.out; rw [List.length_map, back_length] at this; omega
      have hnew : ∀ h : l.length - 1 - k < l.length, (pre ++ [(⟨l.length - 1 - k, h⟩ : Idx l.length)]).map (·.1) = back l.length (k + 1) := fun h => by
        rw [List.map_append, hpre.out, back_succ]; rfl
      obtain ⟨fn, tmps, assign, body, hy, hR⟩ := hY pre ⟨l.length - 1 - k, by omega⟩ wr hJs hpl
      dsimp only at hy
      rw [show ((l.length - 1 - k : Nat) : Int) = (l.length : Int) - 1 - (k : Int) from by omega] at hy
      obtain ⟨ad, rfl, hb, hcx⟩ := us_cell (hr.below hnx) (k := l.length - 1 - k) (by omega)
      have hBs' := (hnx.cell (p := ⟨Bs, 0, none⟩) hB).trans hBs
      have hnew' := Lib.hid (hnew (by omega))
      clear hnew hpl
      gi_wp2
      refine hR.mono ?_
      rintro e W3 (⟨rfl, hJ3, hk3⟩ | ⟨rfl, hJx3⟩)
      · gi_wp2
        go_roundw
        case rel => exact ⟨k + 1, _, by omega, by go_num, hnew', hJ3, hnx.trans hk3⟩
        case measure => simp [intOf]; omega
      · gi_wp2
        refine bodyPost_ret (results_none rfl _ _ _) rfl ?_
        exact ⟨⟨_, rfl⟩, .inr ⟨_, ⟨k + 1, by omega, hnew'.out⟩, hJx3⟩⟩
    · obtain rfl : k = l.length := by omega
      gi_wp2
      go_end0
      exact ⟨⟨_, rfl⟩, .inl ⟨_, hpre.out, hJs⟩⟩

set_option maxHeartbeats 1000000 in
theorem backward_in (F : Fence) (n : Nat) (h5 : F.fn 62) (hro : F.round = none) (A : Option Addr) (m c : Nat) (w : World) :
    CallsIn F n Tryz.prog 62 #[.slice A m c] w fun e w' => e = .returned (.func (.func 88) #[] #[.pointer (some ⟨w.heap.size, 0, none⟩)]) ∧ w' = w.alloc (.cells #[.slice A m c] 23) := by
  refine callsIn_of_wp Tryz.func62 rfl h5 ?_ hro
  simp only [Tryz.ntmps62, List.size_toArray, List.length_cons, List.length_nil, Nat.reduceAdd, Nat.reduceSub, Array.replicate_succ, Array.replicate_zero, List.push_toArray, List.append_toArray, List.nil_append, List.cons_append]
  gi_wp2
  go_ret
  exact ⟨rfl, rfl⟩

theorem backward_stops (F : Fence) (n : Nat) (h7 : F.fn 88) (hro : F.round = none) (hn : 1 ≤ n) (Bs n₀ c : Nat) (A : Option Addr) (l : List Nat) (hl : l.length ≤ 9223372036854775807) (w : World) (hBs : Bs < n₀) (hn₀ : n₀ ≤ w.heap.size)
    (hc : w.cell? ⟨Bs, 0, none⟩ = some (.slice A l.length c)) (hr : Reads w n₀ 1 A l.length (us l)) :
    SeqStopsK F n Tryz.prog 88 #[.pointer (some ⟨Bs, 0, none⟩)] (fun x : Idx l.length => #[Value.int .i64 (x.1 : Nat), Value.int .u64 (lat l x.1 : Nat)]) (Below n₀) (fun ys => ys.map (·.1) = back l.length l.length)
      (fun pre => ∃ k, k ≤ l.length ∧ pre.map (·.1) = back l.length k) l.length w := fun lr J Jx W hW _ _ hY h0 =>
  back1_in F n h7 hro hn lr Bs n₀ c A l hl J Jx hY W ((hW.cell (p := ⟨Bs, 0, none⟩) (by simp; omega)).trans hc) hBs (hr.below (hW.mono hn₀)) h0
end Go.Proofs.YtooonjcpdbbniaaGreatDoor
namespace Go.Proofs.YtooonjcpdbbniaaGreatDoor
open Go.RowKit Go.Shelf
attribute [local go_sem] Oper.semAt_some

theorem boxed_kept {W W' : World} {row : Option Nat} {B : Nat} {t : TypeId} {v : Value} (h : Boxed W B t v) (hg : W.grownBy W' row) (hr : ∀ r, row = some r → ∃ o : Obj, W.heap[r]? = some o ∧ o.isCells = false) : Boxed W' B t v :=
  h.kept hg (fun e => by obtain ⟨o, ho, hc⟩ := hr B e.symm; rw [show W.heap[B]? = _ from h] at ho; cases ho; cases hc)
theorem compare_int_in (n : Nat) (a b : Int) (w : World) :
    CallsIn Fence.wide n Tryz.prog 61 #[.int .i64 a, .int .i64 b] w fun e w' => e = .returned (.int .i64 (cmpI a b)) ∧ w = w' := callsIn_wide.2 (compare_int a b w)
theorem compare_u64_in (n : Nat) (a b : Int) (w : World) :
    CallsIn Fence.wide n Tryz.prog 63 #[.int .u64 a, .int .u64 b] w fun e w' => e = .returned (.int .i64 (cmpI a b)) ∧ w = w' := callsIn_wide.2 (compare_u64 a b w)

theorem cmpL_eq_of {a b : List Nat} {pre : List (Idx a.length)} (hl : a.length = b.length) (hp : ∀ x ∈ pre, lat b x.1 = lat a x.1) (hd : pre.map (·.1) = back a.length a.length) : cmpL a b = 0 := by
  have : a = b := by
    apply List.ext_getElem hl
    intro i h1 h2
    have hm : i ∈ back a.length a.length := by
      simp only [back, List.mem_map, List.mem_range]
      exact ⟨a.length - 1 - i, by omega, by omega⟩
    rw [← hd, List.mem_map] at hm
    obtain ⟨x, hx, rfl⟩ := hm
    have := hp x hx
    simp [lat, h1, h2] at this
    exact this.symm
  subst this
  simp [cmpL, cmpI]
theorem cmpL_ne_of {a b : List Nat} {pre : List (Idx a.length)} {x : Idx a.length} (hba : Bd a) (hbb : Bd b) (hl : a.length = b.length) (hd : ∃ k, k ≤ a.length ∧ (pre ++ [x]).map (·.1) = back a.length k)
    (hp : ∀ y ∈ pre, lat b y.1 = lat a y.1) (hne : lat b x.1 ≠ lat a x.1) : cmpL a b = cmpI (lat a x.1) (lat b x.1) := by
  obtain ⟨k, hk, hd⟩ := hd
  have hx := x.2
  have hlen := congrArg List.length hd
  rw [List.length_map, back_length, List.length_append, List.length_singleton] at hlen
  subst hlen
  rw [List.map_append, back_succ] at hd
  obtain ⟨h1, h2⟩ := List.append_inj' hd rfl
  simp at h2
  have htop : a.drop (x.1 + 1) = b.drop (x.1 + 1) := by
    apply List.ext_getElem (by simp; omega)
    intro j h3 h4
    simp at h3 h4
    have hm : x.1 + 1 + j ∈ back a.length pre.length := by
      simp only [back, List.mem_map, List.mem_range]
      exact ⟨a.length - 1 - (x.1 + 1 + j), by omega, by omega⟩
    rw [← h1, List.mem_map] at hm
    obtain ⟨y, hy, hye⟩ := hm
    have := hp y hy
    rw [hye] at this
    have e1 : x.1 + 1 + j < a.length := by omega
    have e2 : x.1 + 1 + j < b.length := by omega
    simp [lat, e1, e2] at this
    simp [this]
  unfold cmpL
  rw [if_pos hl]
  rcases Nat.lt_or_gt_of_ne hne with h | h
  · have := num_lt_of_top hbb hba x.1 (by omega) hl.symm htop.symm h
    rw [cmpI_gt (by omega), cmpI_gt (by omega)]
  · have := num_lt_of_top hba hbb x.1 (by omega) hl htop h
    rw [cmpI_lt (by omega), cmpI_lt (by omega)]

set_option maxRecDepth 100000 in
set_option maxHeartbeats 1000000 in
theorem cmp_in (va vb : Value) (a b : List Nat) (w : World) (ha : IsL w va a) (hb : IsL w vb b) :
    CallsIn Fence.wide 9 Tryz.prog 42 #[va, vb] w fun e w' => e = .returned (.int .i64 (cmpL a b)) ∧ Below w.heap.size w w' := by
  obtain ⟨A, ca, rfl, hac, hca, hba, hra⟩ := ha
  obtain ⟨B, cb, rfl, hbc, hcb, hbb, hrb⟩ := hb
  refine callsIn_of_wp_marks Tryz.func42 rfl trivial ?_ rfl
  simp only [Tryz.ntmps42, List.size_toArray, List.length_cons, List.length_nil, Nat.reduceAdd, Nat.reduceSub, Array.replicate_succ, Array.replicate_zero, List.push_toArray, List.append_toArray, List.nil_append, List.cons_append]
  by_cases hlen : a.length = b.length
  · have z : (cmpI (a.length : Int) (b.length : Int) != 0) = false := by rw [hlen, cmpI_eq]; rfl
    have hl := Lib.hid hlen
    clear hlen
    gi_wp2_with (first | (refine ⟨trivial, ?_⟩; gi_at_call 61; refine (compare_int_in _ _ _ _).mono ?_; rintro e w' ⟨rfl, rfl⟩) | (refine ⟨trivial, ?_⟩; gi_at_call 62; refine (backward_in Fence.wide _ trivial rfl _ _ _ _).mono ?_; rintro e w' ⟨rfl, rfl⟩))
    have bB := Boxed.new w 23 (.slice B b.length cb)
    have bR := Boxed.new (w.alloc (.cells #[.slice B b.length cb] 23)) 3 (.int .i64 0)
    have bI := Boxed.new ((w.alloc (.cells #[.slice B b.length cb] 23)).alloc (.cells #[.int .i64 0] 3)) 23 (.slice A a.length ca)
    simp only [World.size_alloc] at bR bI
    have hB0 : Below w.heap.size w (((w.alloc (.cells #[.slice B b.length cb] 23)).alloc (.cells #[.int .i64 0] 3)).alloc (.cells #[.slice A a.length ca] 23)) := (((Below.refl _ w).alloc (Nat.le_refl _) _).alloc (by simp) _).alloc (by simp; omega) _
    obtain ⟨W0, hW0⟩ : ∃ W0, W0 = (((w.alloc (.cells #[.slice B b.length cb] 23)).alloc (.cells #[.int .i64 0] 3)).alloc (.cells #[.slice A a.length ca] 23)) := ⟨_, rfl⟩
    have hsz : W0.heap.size = w.heap.size + 3 := by rw [hW0]; simp
    have bB' : Boxed W0 w.heap.size 23 (.slice B b.length cb) := by rw [hW0]; exact (bB.alloc _).alloc _
    have bR' : Boxed W0 (w.heap.size + 1) 3 (.int .i64 0) := by rw [hW0]; exact bR.alloc _
    rw [← hW0] at bI hB0 ⊢
    clear bB bR hW0
    refine wpIn_rangeFunc_ownF (n := 9) rfl (by omega) (gf := 88) (lb := #[.pointer (some ⟨w.heap.size + 1 + 1, 0, none⟩)]) rfl trivial (enters_of Tryz.func88 (by kernel_rfl) rfl)
      (backward_stops Fence.wide 8 trivial rfl (by omega) (w.heap.size + 1 + 1) W0.heap.size ca A a (by omega) W0 (by omega) (Nat.le_refl _) bI.cell ((hra.below hB0).more (by omega))) belowK_t (belowK_b (Nat.le_refl _)) (Below.refl _ _) (fun _ => rfl)
      (fun pre W => ((∀ x ∈ pre, lat b x.1 = lat a x.1) ∧ Boxed W w.heap.size 23 (.slice B b.length cb) ∧ Boxed W (w.heap.size + 1) 3 (.int .i64 0)) ∧ Below w.heap.size w W)
      (fun c pre W => (c = .ret ∧ (∃ pre' x, pre = pre' ++ [x] ∧ (∀ x ∈ pre', lat b x.1 = lat a x.1) ∧ lat b x.1 ≠ lat a x.1 ∧ Boxed W (w.heap.size + 1) 3 (.int .i64 (cmpI (lat a x.1) (lat b x.1))))) ∧ Below w.heap.size w W)
      ?oI ?oX ?st ?a1 ?assign ?body ?done ?stop
    case assign =>
      intro l x W K hK
      gi_wp2
      exact hK
    case oI => exact OwnFrom.and (Own.from (fun s X Y row hs hg hr => ⟨hs.1, boxed_kept hs.2.1 hg hr, boxed_kept hs.2.2 hg hr⟩) _) (ownFrom_below (by omega) (by omega))
    case oX => exact fun c => OwnFrom.and (Own.from (fun s X Y row hs hg hr => ⟨hs.1, by obtain ⟨p, x, h1, h2, h3, h4⟩ := hs.2; exact ⟨p, x, h1, h2, h3, boxed_kept h4 hg hr⟩⟩) _) (ownFrom_below (by omega) (by omega))
    case st => exact ⟨⟨by simp, bB', bR'⟩, hB0⟩
    case body =>
      rintro l pre x W ⟨⟨hp, hBx, hRx⟩, hBel⟩ hlt
      have hc1 := hBx.cell
      have hc2 := hRx.cell
      have hf2 := hRx.frozen
      have hxl := x.2
      have hl' : x.1 < b.length := by have := hl.out; omega
      obtain ⟨ad, rfl, hbb', hcx⟩ := us_cell (hrb.below hBel) hl'
      by_cases he : lat b x.1 = lat a x.1
      · have z : (cmpI (lat a x.1 : Nat) (lat b x.1 : Nat) != 0) = false := by rw [he, cmpI_eq]; rfl
        have he' := Lib.hid he
        clear he
        gi_wp2_with (first | (refine ⟨trivial, ?_⟩; gi_at_call 63; refine (CallsIn.inRound l (compare_u64_in _ _ _ _)).mono ?_; rintro e w' ⟨rfl, rfl⟩))
        exact ⟨KeepsOthers.refl _, Below.refl _ _, ⟨fun y hy => (List.mem_append.1 hy).elim (hp y) (fun e => by simp at e; subst e; exact he'.out), hBx, hRx⟩, hBel⟩
      · have z : (cmpI (lat a x.1 : Nat) (lat b x.1 : Nat) != 0) = true := by rw [bne_iff_ne]; intro h; have := cmpI_zero.1 h; omega
        gi_wp2_with (first | (refine ⟨trivial, ?_⟩; gi_at_call 63; refine (CallsIn.inRound l (compare_u64_in _ _ _ _)).mono ?_; rintro e w' ⟨rfl, rfl⟩))
        exact ⟨KeepsOthers.setCell _ _ _, ⟨rfl, pre, x, rfl, hp, he, hRx.set _⟩, hBel.setCell (p := ⟨w.heap.size + 1, 0, none⟩) (by simp) _⟩
    case done =>
      rintro D ys W hD hD2 ⟨⟨hp, hBx, hRx⟩, hBel⟩ hK
      have hc2 := hRx.cell
      have hf2 := hRx.frozen
      gi_wp2
      have hK' := (KeepsOthers.setCell W ⟨w.heap.size + 1, 0, none⟩ (.int .i64 0)).same D _ hK rfl
      refine ⟨by simp, .inl ⟨_, _, rfl, run_takeDeferred hK', ?_⟩⟩
      have hc5 := (boxed_kept (hRx.set (.int .i64 0)) (grownBy_putObj' _ D (.deferred none)) (fun r e => by cases e; exact ⟨_, hK', rfl⟩)).cell
      refine ⟨.int .i64 0, ?_, ?_, (hBel.setCell (p := ⟨w.heap.size + 1, 0, none⟩) (by simp) _).trans (belowK_b (w := w) (Nat.le_refl _) _ D _ _ (by omega) hK' rfl rfl)⟩
      · simp [results, Tryz.f42, go_sem, hc5]
      · exact ret_int (by rw [cmpL_eq_of hl.out hp hD2])
    case stop =>
      rintro D c pre W hD hpre ⟨⟨rfl, p, x, rfl, hp, hne, hRx⟩, hBel⟩ hK
      gi_wp2
      refine ⟨by simp, .inl ⟨_, _, rfl, run_takeDeferred hK, ?_⟩⟩
      have hc5 := (boxed_kept hRx (grownBy_putObj' _ D (.deferred none)) (fun r e => by cases e; exact ⟨_, hK, rfl⟩)).cell
      refine ⟨.int .i64 (cmpI (lat a x.1) (lat b x.1)), ?_, ?_, hBel.trans (belowK_b (w := w) (Nat.le_refl _) W D _ _ (by omega) hK rfl rfl)⟩
      · simp [results, Tryz.f42, go_sem, hc5]
      · exact ret_int (by rw [cmpL_ne_of hba hbb hl.out hpre hp hne])
  · have z : (cmpI (a.length : Int) (b.length : Int) != 0) = true := by rw [bne_iff_ne]; intro h; have := cmpI_zero.1 h; omega
    have hl := Lib.hid hlen
    clear hlen
    gi_wp2_with (first | (refine ⟨trivial, ?_⟩; gi_at_call 61; refine (compare_int_in _ _ _ _).mono ?_; rintro e w' ⟨rfl, rfl⟩))
    have hc5 := (Boxed.new (w.alloc (.cells #[.slice B b.length cb] 23)) 3 (.int .i64 (cmpI a.length b.length))).cell
    rw [World.size_alloc] at hc5
    refine ⟨.int .i64 (cmpI a.length b.length), ?_, ?_, ((Below.refl _ w).alloc (Nat.le_refl _) _).alloc (by simp) _⟩
    · simp [results, Tryz.f42, go_sem, hc5]
    · exact ret_int (by rw [cmpL, if_neg hl.out])

theorem cmp_any (va vb : Value) (a b : Nat) (w : World) (ha : IsN w va a) (hb : IsN w vb b) :
    Calls Tryz.prog 42 #[va, vb] w fun e w' => e = .returned (.int .i64 (cmpI a b)) ∧ Below w.heap.size w w' := by
  rw [← cmpL_limbs]
  exact callsIn_wide.1 (cmp_in va vb _ _ w ha hb)
end Go.Proofs.YtooonjcpdbbniaaGreatDoor
