/- Codebooks, plainly: the numbers of each kind. No program in sight. -/
import Derived.Test.YtochabikpaoalaaGreatApp
import Derived.RangeFuncNested
import Derived.RangeFuncBound
import Derived.RangeFuncCalls
import Derived.RangeFuncLeaves
import Derived.Shelf.Abstract
import Derived.Shelf.RegionOpen
import Derived.OwnWalkIn
import Derived.TacticsInMore
import Derived.LoopNIn
import Derived.LoopIn
import Derived.Outline
namespace Go.Proofs.YtochabikpaoalaaGreat
/-- a tree's numbers of decade r, of n a side -/
def decs (n : Nat) (ten : Int) : List Int := (List.range n).map fun (j : Nat) => (2 * (n : Int) + 9 * (2 * (j : Int) + 1)) * (128 / (n : Int)) * ten
/-- a tree's numbers above nought but the last one, decade by decade -/
def dec (n0 : Nat) : Nat → List Int
  | 0 => []
  | r + 1 => dec n0 r ++ decs (n0 * 2 ^ r) (10 ^ r)
/-- numbers with their other sides -/
def both : List Int → List Int
  | [] => []
  | x :: r => x :: -x :: both r
theorem both_snoc (l : List Int) (x : Int) : both (l ++ [x]) = both l ++ [x, -x] := by
  induction l with
  | nil => rfl
  | cons y r ih => simp [both, ih]
/-- the numbers of a kind, as the program lays them -/
def laid : Nat → List Int
  | 0 => [0, 2560000000] ++ both (dec 1 7)
  | 1 => [0, 2560000000] ++ dec 2 7
  | 2 => (List.range 256).map fun (c : Nat) => 2 * (c : Int) - 255
  | _ => (List.range 256).map fun (c : Nat) => (c : Int)
/-- the numbers of a kind, rising -/
def bk : Nat → List Int
  | 0 => (dec 1 7).reverse.map (fun x => -x) ++ [0] ++ dec 1 7 ++ [2560000000]
  | 1 => [0] ++ dec 2 7 ++ [2560000000]
  | 2 => (List.range 256).map fun (c : Nat) => 2 * (c : Int) - 255
  | _ => (List.range 256).map fun (c : Nat) => (c : Int)
def rising : List Int → Bool
  | x :: y :: r => decide (x < y) && rising (y :: r)
  | _ => true
theorem bk_rising : ∀ k < 4, rising (bk k) = true := by decide +kernel
theorem bk_len : ∀ k < 4, (bk k).length = 256 := by decide +kernel
theorem laid_perm : ∀ k < 4, (laid k).isPerm (bk k) = true := by decide +kernel
theorem rising_pairwise {l : List Int} (h : rising l = true) : l.Pairwise (· < ·) := by
  induction l with
  | nil => exact List.Pairwise.nil
  | cons x r ih =>
    cases r with
    | nil => simp
    | cons y s =>
      simp only [rising, Bool.and_eq_true, decide_eq_true_eq] at h
      have h2 := ih h.2
      refine List.Pairwise.cons ?_ h2
      intro z hz
      rcases List.mem_cons.1 hz with rfl | hz
      · exact h.1
      · have := (List.pairwise_cons.1 h2).1 z hz; omega
theorem sort_laid (k : Nat) (hk : k < 4) : (laid k).mergeSort (fun x y => decide (x ≤ y)) = bk k := by
  have hp : (laid k).Perm (bk k) := List.isPerm_iff.1 (laid_perm k hk)
  have h1 : ((laid k).mergeSort (fun x y => decide (x ≤ y))).Pairwise (fun x y => decide (x ≤ y) = true) :=
    List.pairwise_mergeSort (fun a b c hab hbc => by simp at *; omega) (fun a b => by simp; omega) _
  have h2 : (bk k).Pairwise (fun x y => decide (x ≤ y) = true) := (rising_pairwise (bk_rising k hk)).imp (fun h => by simp; omega)
  refine List.Perm.eq_of_pairwise (le := fun x y => decide (x ≤ y) = true) ?_ h1 h2 ((List.mergeSort_perm _ _).trans hp)
  intro a b _ _ hab hba
  simp at hab hba
  omega
end Go.Proofs.YtochabikpaoalaaGreat
namespace Go.Proofs.YtochabikpaoalaaGreat
open Go.RowKit Go.Shelf
attribute [local go_sem] Oper.semAt_some

abbrev Num := { x : Int // 0 ≤ x ∧ x ≤ 2560000000 }
theorem decs_succ (n : Nat) (ten : Int) (l : List Int) (j : Nat) (h : l = (decs n ten).take j) (hj : j < n) : (decs n ten).take (j + 1) = l ++ [(2 * (n : Int) + 9 * (2 * (j : Int) + 1)) * (128 / (n : Int)) * ten] := by
  subst h
  have hl : (decs n ten).length = n := by simp [decs]
  rw [List.take_succ_eq_append_getElem (by omega)]
  simp [decs]

set_option maxRecDepth 100000 in
set_option maxHeartbeats 4000000 in
theorem dec1_in_s (lr Bs : Nat) (J Jx : List Num → World → Prop)
    (hY : ∀ pre x W, J pre W → pre.length < 254 → YieldAt Fence.wide (8 - 1) Tryz.prog lr #[.int .i64 x.1] W fun e W' =>
      (e = .returned (.bool true) ∧ J (pre ++ [x]) W' ∧ True) ∨ (e = .returned (.bool false) ∧ Jx (pre ++ [x]) W'))
    (W : World) (hBs : W.cell? ⟨Bs, 0, none⟩ = some (.bool true)) (h0 : J [] W) :
    CallsIn Fence.wide 8 Tryz.prog 79 #[.func (.yield lr) #[] #[], .pointer (some ⟨Bs, 0, none⟩)] W fun e W' => (∃ v, e = .returned v) ∧
      ((∃ ys : List Num, ys.map (·.1) = dec 1 7 ∧ J ys W') ∨ (∃ pre : List Num, True ∧ Jx pre W')) := by
  refine callsIn_of_wp Tryz.func79 rfl trivial ?_ rfl
  simp only [Tryz.ntmps79, List.size_toArray, List.length_cons, List.length_nil, Nat.reduceAdd, Nat.reduceSub, Array.replicate_succ, Array.replicate_zero, List.push_toArray, List.append_toArray, List.nil_append, List.cons_append]
  gi_wp2
  gi_loopw [3, 4, 7] (fun n ten i wr => ∃ (r : Nat) (pre : List Num) (nn tt ii : Int), r ≤ 7 ∧ n = .int .i64 nn ∧ ten = .int .i64 tt ∧ i = .int .i64 ii ∧ Hid (nn = ((1 * 2 ^ r : Nat) : Int) ∧ tt = ((10 ^ r : Nat) : Int) ∧ ii = (r : Int)) ∧ Hid (pre.map (·.1) = dec 1 r) ∧ J pre wr)
    (fun _ _ i _ => 7 - (intOf i).toNat)
  case atStart => exact ⟨0, [], 1, 1, 0, by omega, rfl, rfl, rfl, Lib.hid ⟨by simp, by simp, by simp⟩, Lib.hid rfl, h0⟩
  case round =>
    obtain ⟨r, pre, nn, tt, ii, hr, rfl, rfl, rfl, hnt, hpre, hJ⟩ := hrel
    have hr8 : r = 0 ∨ r = 1 ∨ r = 2 ∨ r = 3 ∨ r = 4 ∨ r = 5 ∨ r = 6 ∨ r = 7 := by omega
    rcases hr8 with rfl | rfl | rfl | rfl | rfl | rfl | rfl | rfl
    · obtain ⟨e1, e2, e3⟩ := hnt.out
      obtain rfl : nn = 1 := by simpa using e1
      obtain rfl : tt = 1 := by simpa using e2
      obtain rfl : ii = 0 := by simpa using e3
      clear e1 e2 e3 hnt
      gi_wp2
      gi_loopw [10] (fun i wr => ∃ (j : Nat) (pre : List Num) (l : List Int), j ≤ 1 ∧ i = .int .i64 j ∧ Hid (l = (decs 1 1).take j) ∧ Hid (pre.map (·.1) = dec 1 0 ++ l) ∧ pre.length ≤ 0 + j ∧ J pre wr) (fun i _ => 1 - (intOf i).toNat)
      case atStart => exact ⟨0, pre, [], by omega, rfl, Lib.hid rfl, Lib.hid (by rw [List.append_nil]; exact hpre.out), by have := congrArg List.length hpre.out; rw [List.length_map, show (dec 1 0).length = 0 from by decide +kernel] at this; omega, hJ⟩
      case round =>
        obtain ⟨j, pre, l, hj, rfl, hl, hpre, hlen, hJ⟩ := hrel
        by_cases hlt : j < 1
        · obtain ⟨x, hx⟩ : ∃ x : Num, x.1 = (2 + 9 * (2 * (j : Int) + 1)) * 128 := ⟨⟨(2 + 9 * (2 * (j : Int) + 1)) * 128, by omega⟩, rfl⟩
          have hs := decs_succ 1 1 l j hl.out hlt
          rw [show (2 * ((1 : Nat) : Int) + 9 * (2 * (j : Int) + 1)) * (128 / ((1 : Nat) : Int)) * 1 = (2 + 9 * (2 * (j : Int) + 1)) * 128 from by omega] at hs
          have E : Hid ((pre ++ [x]).map (·.1) = dec 1 0 ++ (decs 1 1).take (j + 1)) := by
            rw [Hid, hs, List.map_append, hpre.out, List.append_assoc]
            rw [List.map_cons, List.map_nil, hx]
          obtain ⟨fn, tmps, assign, body, hy, hR⟩ := hY pre x _ hJ (by omega)
          rw [hx] at hy
          have hR := hR.mono (R' := fun e W' => ∃ q : Bool, e = .returned (.bool q) ∧ Hid ((q = true ∧ J (pre ++ [x]) W') ∨ (q = false ∧ Jx (pre ++ [x]) W'))) (by
            rintro e W' (⟨rfl, h, _⟩ | ⟨rfl, h⟩)
            · exact ⟨true, rfl, .inl ⟨rfl, h⟩⟩
            · exact ⟨false, rfl, .inr ⟨rfl, h⟩⟩)
          clear hs hx
          gi_wp2_with fail
          refine hR.mono ?_
          rintro e W3 ⟨q, rfl, hq⟩
          cases q
          · rcases hq.out with ⟨h, _⟩ | ⟨_, hJx3⟩
            · cases h
            gi_wp2
            refine bodyPost_ret (results_none rfl _ _ _) rfl ?_
            exact ⟨⟨_, rfl⟩, .inr ⟨_, trivial, hJx3⟩⟩
          · rcases hq.out with ⟨_, hJ3⟩ | ⟨h, _⟩
            · gi_wp2
              exact ⟨⟨j + 1, _, _, by omega, by go_num, Lib.hid rfl, E, by simp; omega, hJ3⟩, by simp [intOf]; omega⟩
            · cases h
        · obtain rfl : j = 1 := by omega
          have E : Hid (pre.map (·.1) = dec 1 1) := by
            rw [Hid, hpre.out, hl.out, List.take_of_length_le (by simp [decs])]; rfl
          gi_wp2
          exact ⟨⟨1, pre, 2, 10, 1, by omega, rfl, rfl, rfl, Lib.hid ⟨by simp, by simp, by simp⟩, E, hJ⟩, by simp [intOf]⟩
    · obtain ⟨e1, e2, e3⟩ := hnt.out
      obtain rfl : nn = 2 := by simpa using e1
      obtain rfl : tt = 10 := by simpa using e2
      obtain rfl : ii = 1 := by simpa using e3
      clear e1 e2 e3 hnt
      gi_wp2
      gi_loopw [10] (fun i wr => ∃ (j : Nat) (pre : List Num) (l : List Int), j ≤ 2 ∧ i = .int .i64 j ∧ Hid (l = (decs 2 10).take j) ∧ Hid (pre.map (·.1) = dec 1 1 ++ l) ∧ pre.length ≤ 1 + j ∧ J pre wr) (fun i _ => 2 - (intOf i).toNat)
      case atStart => exact ⟨0, pre, [], by omega, rfl, Lib.hid rfl, Lib.hid (by rw [List.append_nil]; exact hpre.out), by have := congrArg List.length hpre.out; rw [List.length_map, show (dec 1 1).length = 1 from by decide +kernel] at this; omega, hJ⟩
      case round =>
        obtain ⟨j, pre, l, hj, rfl, hl, hpre, hlen, hJ⟩ := hrel
        by_cases hlt : j < 2
        · obtain ⟨x, hx⟩ : ∃ x : Num, x.1 = (4 + 9 * (2 * (j : Int) + 1)) * 64 * 10 := ⟨⟨(4 + 9 * (2 * (j : Int) + 1)) * 64 * 10, by omega⟩, rfl⟩
          have hs := decs_succ 2 10 l j hl.out hlt
          rw [show (2 * ((2 : Nat) : Int) + 9 * (2 * (j : Int) + 1)) * (128 / ((2 : Nat) : Int)) * 10 = (4 + 9 * (2 * (j : Int) + 1)) * 64 * 10 from by omega] at hs
          have E : Hid ((pre ++ [x]).map (·.1) = dec 1 1 ++ (decs 2 10).take (j + 1)) := by
            rw [Hid, hs, List.map_append, hpre.out, List.append_assoc]
            rw [List.map_cons, List.map_nil, hx]
          obtain ⟨fn, tmps, assign, body, hy, hR⟩ := hY pre x _ hJ (by omega)
          rw [hx] at hy
          have hR := hR.mono (R' := fun e W' => ∃ q : Bool, e = .returned (.bool q) ∧ Hid ((q = true ∧ J (pre ++ [x]) W') ∨ (q = false ∧ Jx (pre ++ [x]) W'))) (by
            rintro e W' (⟨rfl, h, _⟩ | ⟨rfl, h⟩)
            · exact ⟨true, rfl, .inl ⟨rfl, h⟩⟩
            · exact ⟨false, rfl, .inr ⟨rfl, h⟩⟩)
          clear hs hx
          gi_wp2_with fail
          refine hR.mono ?_
          rintro e W3 ⟨q, rfl, hq⟩
          cases q
          · rcases hq.out with ⟨h, _⟩ | ⟨_, hJx3⟩
            · cases h
            gi_wp2
            refine bodyPost_ret (results_none rfl _ _ _) rfl ?_
            exact ⟨⟨_, rfl⟩, .inr ⟨_, trivial, hJx3⟩⟩
          · rcases hq.out with ⟨_, hJ3⟩ | ⟨h, _⟩
            · gi_wp2
              exact ⟨⟨j + 1, _, _, by omega, by go_num, Lib.hid rfl, E, by simp; omega, hJ3⟩, by simp [intOf]; omega⟩
            · cases h
        · obtain rfl : j = 2 := by omega
          have E : Hid (pre.map (·.1) = dec 1 2) := by
            rw [Hid, hpre.out, hl.out, List.take_of_length_le (by simp [decs])]; rfl
          gi_wp2
          exact ⟨⟨2, pre, 4, 100, 2, by omega, rfl, rfl, rfl, Lib.hid ⟨by simp, by simp, by simp⟩, E, hJ⟩, by simp [intOf]⟩
    · obtain ⟨e1, e2, e3⟩ := hnt.out
      obtain rfl : nn = 4 := by simpa using e1
      obtain rfl : tt = 100 := by simpa using e2
      obtain rfl : ii = 2 := by simpa using e3
      clear e1 e2 e3 hnt
      gi_wp2
      gi_loopw [10] (fun i wr => ∃ (j : Nat) (pre : List Num) (l : List Int), j ≤ 4 ∧ i = .int .i64 j ∧ Hid (l = (decs 4 100).take j) ∧ Hid (pre.map (·.1) = dec 1 2 ++ l) ∧ pre.length ≤ 3 + j ∧ J pre wr) (fun i _ => 4 - (intOf i).toNat)
      case atStart => exact ⟨0, pre, [], by omega, rfl, Lib.hid rfl, Lib.hid (by rw [List.append_nil]; exact hpre.out), by have := congrArg List.length hpre.out; rw [List.length_map, show (dec 1 2).length = 3 from by decide +kernel] at this; omega, hJ⟩
      case round =>
        obtain ⟨j, pre, l, hj, rfl, hl, hpre, hlen, hJ⟩ := hrel
        by_cases hlt : j < 4
        · obtain ⟨x, hx⟩ : ∃ x : Num, x.1 = (8 + 9 * (2 * (j : Int) + 1)) * 32 * 100 := ⟨⟨(8 + 9 * (2 * (j : Int) + 1)) * 32 * 100, by omega⟩, rfl⟩
          have hs := decs_succ 4 100 l j hl.out hlt
          rw [show (2 * ((4 : Nat) : Int) + 9 * (2 * (j : Int) + 1)) * (128 / ((4 : Nat) : Int)) * 100 = (8 + 9 * (2 * (j : Int) + 1)) * 32 * 100 from by omega] at hs
          have E : Hid ((pre ++ [x]).map (·.1) = dec 1 2 ++ (decs 4 100).take (j + 1)) := by
            rw [Hid, hs, List.map_append, hpre.out, List.append_assoc]
            rw [List.map_cons, List.map_nil, hx]
          obtain ⟨fn, tmps, assign, body, hy, hR⟩ := hY pre x _ hJ (by omega)
          rw [hx] at hy
          have hR := hR.mono (R' := fun e W' => ∃ q : Bool, e = .returned (.bool q) ∧ Hid ((q = true ∧ J (pre ++ [x]) W') ∨ (q = false ∧ Jx (pre ++ [x]) W'))) (by
            rintro e W' (⟨rfl, h, _⟩ | ⟨rfl, h⟩)
            · exact ⟨true, rfl, .inl ⟨rfl, h⟩⟩
            · exact ⟨false, rfl, .inr ⟨rfl, h⟩⟩)
          clear hs hx
          gi_wp2_with fail
          refine hR.mono ?_
          rintro e W3 ⟨q, rfl, hq⟩
          cases q
          · rcases hq.out with ⟨h, _⟩ | ⟨_, hJx3⟩
            · cases h
            gi_wp2
            refine bodyPost_ret (results_none rfl _ _ _) rfl ?_
            exact ⟨⟨_, rfl⟩, .inr ⟨_, trivial, hJx3⟩⟩
          · rcases hq.out with ⟨_, hJ3⟩ | ⟨h, _⟩
            · gi_wp2
              exact ⟨⟨j + 1, _, _, by omega, by go_num, Lib.hid rfl, E, by simp; omega, hJ3⟩, by simp [intOf]; omega⟩
            · cases h
        · obtain rfl : j = 4 := by omega
          have E : Hid (pre.map (·.1) = dec 1 3) := by
            rw [Hid, hpre.out, hl.out, List.take_of_length_le (by simp [decs])]; rfl
          gi_wp2
          exact ⟨⟨3, pre, 8, 1000, 3, by omega, rfl, rfl, rfl, Lib.hid ⟨by simp, by simp, by simp⟩, E, hJ⟩, by simp [intOf]⟩
    · obtain ⟨e1, e2, e3⟩ := hnt.out
      obtain rfl : nn = 8 := by simpa using e1
      obtain rfl : tt = 1000 := by simpa using e2
      obtain rfl : ii = 3 := by simpa using e3
      clear e1 e2 e3 hnt
      gi_wp2
      gi_loopw [10] (fun i wr => ∃ (j : Nat) (pre : List Num) (l : List Int), j ≤ 8 ∧ i = .int .i64 j ∧ Hid (l = (decs 8 1000).take j) ∧ Hid (pre.map (·.1) = dec 1 3 ++ l) ∧ pre.length ≤ 7 + j ∧ J pre wr) (fun i _ => 8 - (intOf i).toNat)
      case atStart => exact ⟨0, pre, [], by omega, rfl, Lib.hid rfl, Lib.hid (by rw [List.append_nil]; exact hpre.out), by have := congrArg List.length hpre.out; rw [List.length_map, show (dec 1 3).length = 7 from by decide +kernel] at this; omega, hJ⟩
      case round =>
        obtain ⟨j, pre, l, hj, rfl, hl, hpre, hlen, hJ⟩ := hrel
        by_cases hlt : j < 8
        · obtain ⟨x, hx⟩ : ∃ x : Num, x.1 = (16 + 9 * (2 * (j : Int) + 1)) * 16 * 1000 := ⟨⟨(16 + 9 * (2 * (j : Int) + 1)) * 16 * 1000, by omega⟩, rfl⟩
          have hs := decs_succ 8 1000 l j hl.out hlt
          rw [show (2 * ((8 : Nat) : Int) + 9 * (2 * (j : Int) + 1)) * (128 / ((8 : Nat) : Int)) * 1000 = (16 + 9 * (2 * (j : Int) + 1)) * 16 * 1000 from by omega] at hs
          have E : Hid ((pre ++ [x]).map (·.1) = dec 1 3 ++ (decs 8 1000).take (j + 1)) := by
            rw [Hid, hs, List.map_append, hpre.out, List.append_assoc]
            rw [List.map_cons, List.map_nil, hx]
          obtain ⟨fn, tmps, assign, body, hy, hR⟩ := hY pre x _ hJ (by omega)
          rw [hx] at hy
          have hR := hR.mono (R' := fun e W' => ∃ q : Bool, e = .returned (.bool q) ∧ Hid ((q = true ∧ J (pre ++ [x]) W') ∨ (q = false ∧ Jx (pre ++ [x]) W'))) (by
            rintro e W' (⟨rfl, h, _⟩ | ⟨rfl, h⟩)
            · exact ⟨true, rfl, .inl ⟨rfl, h⟩⟩
            · exact ⟨false, rfl, .inr ⟨rfl, h⟩⟩)
          clear hs hx
          gi_wp2_with fail
          refine hR.mono ?_
          rintro e W3 ⟨q, rfl, hq⟩
          cases q
          · rcases hq.out with ⟨h, _⟩ | ⟨_, hJx3⟩
            · cases h
            gi_wp2
            refine bodyPost_ret (results_none rfl _ _ _) rfl ?_
            exact ⟨⟨_, rfl⟩, .inr ⟨_, trivial, hJx3⟩⟩
          · rcases hq.out with ⟨_, hJ3⟩ | ⟨h, _⟩
            · gi_wp2
              exact ⟨⟨j + 1, _, _, by omega, by go_num, Lib.hid rfl, E, by simp; omega, hJ3⟩, by simp [intOf]; omega⟩
            · cases h
        · obtain rfl : j = 8 := by omega
          have E : Hid (pre.map (·.1) = dec 1 4) := by
            rw [Hid, hpre.out, hl.out, List.take_of_length_le (by simp [decs])]; rfl
          gi_wp2
          exact ⟨⟨4, pre, 16, 10000, 4, by omega, rfl, rfl, rfl, Lib.hid ⟨by simp, by simp, by simp⟩, E, hJ⟩, by simp [intOf]⟩
    · obtain ⟨e1, e2, e3⟩ := hnt.out
      obtain rfl : nn = 16 := by simpa using e1
      obtain rfl : tt = 10000 := by simpa using e2
      obtain rfl : ii = 4 := by simpa using e3
      clear e1 e2 e3 hnt
      gi_wp2
      gi_loopw [10] (fun i wr => ∃ (j : Nat) (pre : List Num) (l : List Int), j ≤ 16 ∧ i = .int .i64 j ∧ Hid (l = (decs 16 10000).take j) ∧ Hid (pre.map (·.1) = dec 1 4 ++ l) ∧ pre.length ≤ 15 + j ∧ J pre wr) (fun i _ => 16 - (intOf i).toNat)
      case atStart => exact ⟨0, pre, [], by omega, rfl, Lib.hid rfl, Lib.hid (by rw [List.append_nil]; exact hpre.out), by have := congrArg List.length hpre.out; rw [List.length_map, show (dec 1 4).length = 15 from by decide +kernel] at this; omega, hJ⟩
      case round =>
        obtain ⟨j, pre, l, hj, rfl, hl, hpre, hlen, hJ⟩ := hrel
        by_cases hlt : j < 16
        · obtain ⟨x, hx⟩ : ∃ x : Num, x.1 = (32 + 9 * (2 * (j : Int) + 1)) * 8 * 10000 := ⟨⟨(32 + 9 * (2 * (j : Int) + 1)) * 8 * 10000, by omega⟩, rfl⟩
          have hs := decs_succ 16 10000 l j hl.out hlt
          rw [show (2 * ((16 : Nat) : Int) + 9 * (2 * (j : Int) + 1)) * (128 / ((16 : Nat) : Int)) * 10000 = (32 + 9 * (2 * (j : Int) + 1)) * 8 * 10000 from by omega] at hs
          have E : Hid ((pre ++ [x]).map (·.1) = dec 1 4 ++ (decs 16 10000).take (j + 1)) := by
            rw [Hid, hs, List.map_append, hpre.out, List.append_assoc]
            rw [List.map_cons, List.map_nil, hx]
          obtain ⟨fn, tmps, assign, body, hy, hR⟩ := hY pre x _ hJ (by omega)
          rw [hx] at hy
          have hR := hR.mono (R' := fun e W' => ∃ q : Bool, e = .returned (.bool q) ∧ Hid ((q = true ∧ J (pre ++ [x]) W') ∨ (q = false ∧ Jx (pre ++ [x]) W'))) (by
            rintro e W' (⟨rfl, h, _⟩ | ⟨rfl, h⟩)
            · exact ⟨true, rfl, .inl ⟨rfl, h⟩⟩
            · exact ⟨false, rfl, .inr ⟨rfl, h⟩⟩)
          clear hs hx
          gi_wp2_with fail
          refine hR.mono ?_
          rintro e W3 ⟨q, rfl, hq⟩
          cases q
          · rcases hq.out with ⟨h, _⟩ | ⟨_, hJx3⟩
            · cases h
            gi_wp2
            refine bodyPost_ret (results_none rfl _ _ _) rfl ?_
            exact ⟨⟨_, rfl⟩, .inr ⟨_, trivial, hJx3⟩⟩
          · rcases hq.out with ⟨_, hJ3⟩ | ⟨h, _⟩
            · gi_wp2
              exact ⟨⟨j + 1, _, _, by omega, by go_num, Lib.hid rfl, E, by simp; omega, hJ3⟩, by simp [intOf]; omega⟩
            · cases h
        · obtain rfl : j = 16 := by omega
          have E : Hid (pre.map (·.1) = dec 1 5) := by
            rw [Hid, hpre.out, hl.out, List.take_of_length_le (by simp [decs])]; rfl
          gi_wp2
          exact ⟨⟨5, pre, 32, 100000, 5, by omega, rfl, rfl, rfl, Lib.hid ⟨by simp, by simp, by simp⟩, E, hJ⟩, by simp [intOf]⟩
    · obtain ⟨e1, e2, e3⟩ := hnt.out
      obtain rfl : nn = 32 := by simpa using e1
      obtain rfl : tt = 100000 := by simpa using e2
      obtain rfl : ii = 5 := by simpa using e3
      clear e1 e2 e3 hnt
      gi_wp2
      gi_loopw [10] (fun i wr => ∃ (j : Nat) (pre : List Num) (l : List Int), j ≤ 32 ∧ i = .int .i64 j ∧ Hid (l = (decs 32 100000).take j) ∧ Hid (pre.map (·.1) = dec 1 5 ++ l) ∧ pre.length ≤ 31 + j ∧ J pre wr) (fun i _ => 32 - (intOf i).toNat)
      case atStart => exact ⟨0, pre, [], by omega, rfl, Lib.hid rfl, Lib.hid (by rw [List.append_nil]; exact hpre.out), by have := congrArg List.length hpre.out; rw [List.length_map, show (dec 1 5).length = 31 from by decide +kernel] at this; omega, hJ⟩
      case round =>
        obtain ⟨j, pre, l, hj, rfl, hl, hpre, hlen, hJ⟩ := hrel
        by_cases hlt : j < 32
        · obtain ⟨x, hx⟩ : ∃ x : Num, x.1 = (64 + 9 * (2 * (j : Int) + 1)) * 4 * 100000 := ⟨⟨(64 + 9 * (2 * (j : Int) + 1)) * 4 * 100000, by omega⟩, rfl⟩
          have hs := decs_succ 32 100000 l j hl.out hlt
          rw [show (2 * ((32 : Nat) : Int) + 9 * (2 * (j : Int) + 1)) * (128 / ((32 : Nat) : Int)) * 100000 = (64 + 9 * (2 * (j : Int) + 1)) * 4 * 100000 from by omega] at hs
          have E : Hid ((pre ++ [x]).map (·.1) = dec 1 5 ++ (decs 32 100000).take (j + 1)) := by
            rw [Hid, hs, List.map_append, hpre.out, List.append_assoc]
            rw [List.map_cons, List.map_nil, hx]
          obtain ⟨fn, tmps, assign, body, hy, hR⟩ := hY pre x _ hJ (by omega)
          rw [hx] at hy
          have hR := hR.mono (R' := fun e W' => ∃ q : Bool, e = .returned (.bool q) ∧ Hid ((q = true ∧ J (pre ++ [x]) W') ∨ (q = false ∧ Jx (pre ++ [x]) W'))) (by
            rintro e W' (⟨rfl, h, _⟩ | ⟨rfl, h⟩)
            · exact ⟨true, rfl, .inl ⟨rfl, h⟩⟩
            · exact ⟨false, rfl, .inr ⟨rfl, h⟩⟩)
          clear hs hx
          gi_wp2_with fail
          refine hR.mono ?_
          rintro e W3 ⟨q, rfl, hq⟩
          cases q
          · rcases hq.out with ⟨h, _⟩ | ⟨_, hJx3⟩
            · cases h
            gi_wp2
            refine bodyPost_ret (results_none rfl _ _ _) rfl ?_
            exact ⟨⟨_, rfl⟩, .inr ⟨_, trivial, hJx3⟩⟩
          · rcases hq.out with ⟨_, hJ3⟩ | ⟨h, _⟩
            · gi_wp2
              exact ⟨⟨j + 1, _, _, by omega, by go_num, Lib.hid rfl, E, by simp; omega, hJ3⟩, by simp [intOf]; omega⟩
            · cases h
        · obtain rfl : j = 32 := by omega
          have E : Hid (pre.map (·.1) = dec 1 6) := by
            rw [Hid, hpre.out, hl.out, List.take_of_length_le (by simp [decs])]; rfl
          gi_wp2
          exact ⟨⟨6, pre, 64, 1000000, 6, by omega, rfl, rfl, rfl, Lib.hid ⟨by simp, by simp, by simp⟩, E, hJ⟩, by simp [intOf]⟩
    · obtain ⟨e1, e2, e3⟩ := hnt.out
      obtain rfl : nn = 64 := by simpa using e1
      obtain rfl : tt = 1000000 := by simpa using e2
      obtain rfl : ii = 6 := by simpa using e3
      clear e1 e2 e3 hnt
      gi_wp2
      gi_loopw [10] (fun i wr => ∃ (j : Nat) (pre : List Num) (l : List Int), j ≤ 64 ∧ i = .int .i64 j ∧ Hid (l = (decs 64 1000000).take j) ∧ Hid (pre.map (·.1) = dec 1 6 ++ l) ∧ pre.length ≤ 63 + j ∧ J pre wr) (fun i _ => 64 - (intOf i).toNat)
      case atStart => exact ⟨0, pre, [], by omega, rfl, Lib.hid rfl, Lib.hid (by rw [List.append_nil]; exact hpre.out), by have := congrArg List.length hpre.out; rw [List.length_map, show (dec 1 6).length = 63 from by decide +kernel] at this; omega, hJ⟩
      case round =>
        obtain ⟨j, pre, l, hj, rfl, hl, hpre, hlen, hJ⟩ := hrel
        by_cases hlt : j < 64
        · obtain ⟨x, hx⟩ : ∃ x : Num, x.1 = (128 + 9 * (2 * (j : Int) + 1)) * 2 * 1000000 := ⟨⟨(128 + 9 * (2 * (j : Int) + 1)) * 2 * 1000000, by omega⟩, rfl⟩
          have hs := decs_succ 64 1000000 l j hl.out hlt
          rw [show (2 * ((64 : Nat) : Int) + 9 * (2 * (j : Int) + 1)) * (128 / ((64 : Nat) : Int)) * 1000000 = (128 + 9 * (2 * (j : Int) + 1)) * 2 * 1000000 from by omega] at hs
          have E : Hid ((pre ++ [x]).map (·.1) = dec 1 6 ++ (decs 64 1000000).take (j + 1)) := by
            rw [Hid, hs, List.map_append, hpre.out, List.append_assoc]
            rw [List.map_cons, List.map_nil, hx]
          obtain ⟨fn, tmps, assign, body, hy, hR⟩ := hY pre x _ hJ (by omega)
          rw [hx] at hy
          have hR := hR.mono (R' := fun e W' => ∃ q : Bool, e = .returned (.bool q) ∧ Hid ((q = true ∧ J (pre ++ [x]) W') ∨ (q = false ∧ Jx (pre ++ [x]) W'))) (by
            rintro e W' (⟨rfl, h, _⟩ | ⟨rfl, h⟩)
            · exact ⟨true, rfl, .inl ⟨rfl, h⟩⟩
            · exact ⟨false, rfl, .inr ⟨rfl, h⟩⟩)
          clear hs hx
          gi_wp2_with fail
          refine hR.mono ?_
          rintro e W3 ⟨q, rfl, hq⟩
          cases q
          · rcases hq.out with ⟨h, _⟩ | ⟨_, hJx3⟩
            · cases h
            gi_wp2
            refine bodyPost_ret (results_none rfl _ _ _) rfl ?_
            exact ⟨⟨_, rfl⟩, .inr ⟨_, trivial, hJx3⟩⟩
          · rcases hq.out with ⟨_, hJ3⟩ | ⟨h, _⟩
            · gi_wp2
              exact ⟨⟨j + 1, _, _, by omega, by go_num, Lib.hid rfl, E, by simp; omega, hJ3⟩, by simp [intOf]; omega⟩
            · cases h
        · obtain rfl : j = 64 := by omega
          have E : Hid (pre.map (·.1) = dec 1 7) := by
            rw [Hid, hpre.out, hl.out, List.take_of_length_le (by simp [decs])]; rfl
          gi_wp2
          exact ⟨⟨7, pre, 128, 10000000, 7, by omega, rfl, rfl, rfl, Lib.hid ⟨by simp, by simp, by simp⟩, E, hJ⟩, by simp [intOf]⟩
    · obtain ⟨e1, e2, e3⟩ := hnt.out
      obtain rfl : ii = 7 := by simpa using e3
      clear e1 e2 e3 hnt
      gi_wp2
      go_end0
      exact ⟨⟨_, rfl⟩, .inl ⟨_, hpre.out, hJ⟩⟩

set_option maxRecDepth 100000 in
set_option maxHeartbeats 4000000 in
theorem dec1_in_u (lr Bs : Nat) (J Jx : List Num → World → Prop)
    (hY : ∀ pre x W, J pre W → pre.length < 254 → YieldAt Fence.wide (8 - 1) Tryz.prog lr #[.int .i64 x.1] W fun e W' =>
      (e = .returned (.bool true) ∧ J (pre ++ [x]) W' ∧ True) ∨ (e = .returned (.bool false) ∧ Jx (pre ++ [x]) W'))
    (W : World) (hBs : W.cell? ⟨Bs, 0, none⟩ = some (.bool false)) (h0 : J [] W) :
    CallsIn Fence.wide 8 Tryz.prog 79 #[.func (.yield lr) #[] #[], .pointer (some ⟨Bs, 0, none⟩)] W fun e W' => (∃ v, e = .returned v) ∧
      ((∃ ys : List Num, ys.map (·.1) = dec 2 7 ∧ J ys W') ∨ (∃ pre : List Num, True ∧ Jx pre W')) := by
  refine callsIn_of_wp Tryz.func79 rfl trivial ?_ rfl
  simp only [Tryz.ntmps79, List.size_toArray, List.length_cons, List.length_nil, Nat.reduceAdd, Nat.reduceSub, Array.replicate_succ, Array.replicate_zero, List.push_toArray, List.append_toArray, List.nil_append, List.cons_append]
  gi_wp2
  gi_loopw [3, 4, 7] (fun n ten i wr => ∃ (r : Nat) (pre : List Num) (nn tt ii : Int), r ≤ 7 ∧ n = .int .i64 nn ∧ ten = .int .i64 tt ∧ i = .int .i64 ii ∧ Hid (nn = ((2 * 2 ^ r : Nat) : Int) ∧ tt = ((10 ^ r : Nat) : Int) ∧ ii = (r : Int)) ∧ Hid (pre.map (·.1) = dec 2 r) ∧ J pre wr)
    (fun _ _ i _ => 7 - (intOf i).toNat)
  case atStart => exact ⟨0, [], 2, 1, 0, by omega, rfl, rfl, rfl, Lib.hid ⟨by simp, by simp, by simp⟩, Lib.hid rfl, h0⟩
  case round =>
    obtain ⟨r, pre, nn, tt, ii, hr, rfl, rfl, rfl, hnt, hpre, hJ⟩ := hrel
    have hr8 : r = 0 ∨ r = 1 ∨ r = 2 ∨ r = 3 ∨ r = 4 ∨ r = 5 ∨ r = 6 ∨ r = 7 := by omega
    rcases hr8 with rfl | rfl | rfl | rfl | rfl | rfl | rfl | rfl
    · obtain ⟨e1, e2, e3⟩ := hnt.out
      obtain rfl : nn = 2 := by simpa using e1
      obtain rfl : tt = 1 := by simpa using e2
      obtain rfl : ii = 0 := by simpa using e3
      clear e1 e2 e3 hnt
      gi_wp2
      gi_loopw [10] (fun i wr => ∃ (j : Nat) (pre : List Num) (l : List Int), j ≤ 2 ∧ i = .int .i64 j ∧ Hid (l = (decs 2 1).take j) ∧ Hid (pre.map (·.1) = dec 2 0 ++ l) ∧ pre.length ≤ 0 + j ∧ J pre wr) (fun i _ => 2 - (intOf i).toNat)
      case atStart => exact ⟨0, pre, [], by omega, rfl, Lib.hid rfl, Lib.hid (by rw [List.append_nil]; exact hpre.out), by have := congrArg List.length hpre.out; rw [List.length_map, show (dec 2 0).length = 0 from by decide +kernel] at this; omega, hJ⟩
      case round =>
        obtain ⟨j, pre, l, hj, rfl, hl, hpre, hlen, hJ⟩ := hrel
        by_cases hlt : j < 2
        · obtain ⟨x, hx⟩ : ∃ x : Num, x.1 = (4 + 9 * (2 * (j : Int) + 1)) * 64 := ⟨⟨(4 + 9 * (2 * (j : Int) + 1)) * 64, by omega⟩, rfl⟩
          have hs := decs_succ 2 1 l j hl.out hlt
          rw [show (2 * ((2 : Nat) : Int) + 9 * (2 * (j : Int) + 1)) * (128 / ((2 : Nat) : Int)) * 1 = (4 + 9 * (2 * (j : Int) + 1)) * 64 from by omega] at hs
          have E : Hid ((pre ++ [x]).map (·.1) = dec 2 0 ++ (decs 2 1).take (j + 1)) := by
            rw [Hid, hs, List.map_append, hpre.out, List.append_assoc]
            rw [List.map_cons, List.map_nil, hx]
          obtain ⟨fn, tmps, assign, body, hy, hR⟩ := hY pre x _ hJ (by omega)
          rw [hx] at hy
          have hR := hR.mono (R' := fun e W' => ∃ q : Bool, e = .returned (.bool q) ∧ Hid ((q = true ∧ J (pre ++ [x]) W') ∨ (q = false ∧ Jx (pre ++ [x]) W'))) (by
            rintro e W' (⟨rfl, h, _⟩ | ⟨rfl, h⟩)
            · exact ⟨true, rfl, .inl ⟨rfl, h⟩⟩
            · exact ⟨false, rfl, .inr ⟨rfl, h⟩⟩)
          clear hs hx
          gi_wp2_with fail
          refine hR.mono ?_
          rintro e W3 ⟨q, rfl, hq⟩
          cases q
          · rcases hq.out with ⟨h, _⟩ | ⟨_, hJx3⟩
            · cases h
            gi_wp2
            refine bodyPost_ret (results_none rfl _ _ _) rfl ?_
            exact ⟨⟨_, rfl⟩, .inr ⟨_, trivial, hJx3⟩⟩
          · rcases hq.out with ⟨_, hJ3⟩ | ⟨h, _⟩
            · gi_wp2
              exact ⟨⟨j + 1, _, _, by omega, by go_num, Lib.hid rfl, E, by simp; omega, hJ3⟩, by simp [intOf]; omega⟩
            · cases h
        · obtain rfl : j = 2 := by omega
          have E : Hid (pre.map (·.1) = dec 2 1) := by
            rw [Hid, hpre.out, hl.out, List.take_of_length_le (by simp [decs])]; rfl
          gi_wp2
          exact ⟨⟨1, pre, 4, 10, 1, by omega, rfl, rfl, rfl, Lib.hid ⟨by simp, by simp, by simp⟩, E, hJ⟩, by simp [intOf]⟩
    · obtain ⟨e1, e2, e3⟩ := hnt.out
      obtain rfl : nn = 4 := by simpa using e1
      obtain rfl : tt = 10 := by simpa using e2
      obtain rfl : ii = 1 := by simpa using e3
      clear e1 e2 e3 hnt
      gi_wp2
      gi_loopw [10] (fun i wr => ∃ (j : Nat) (pre : List Num) (l : List Int), j ≤ 4 ∧ i = .int .i64 j ∧ Hid (l = (decs 4 10).take j) ∧ Hid (pre.map (·.1) = dec 2 1 ++ l) ∧ pre.length ≤ 2 + j ∧ J pre wr) (fun i _ => 4 - (intOf i).toNat)
      case atStart => exact ⟨0, pre, [], by omega, rfl, Lib.hid rfl, Lib.hid (by rw [List.append_nil]; exact hpre.out), by have := congrArg List.length hpre.out; rw [List.length_map, show (dec 2 1).length = 2 from by decide +kernel] at this; omega, hJ⟩
      case round =>
        obtain ⟨j, pre, l, hj, rfl, hl, hpre, hlen, hJ⟩ := hrel
        by_cases hlt : j < 4
        · obtain ⟨x, hx⟩ : ∃ x : Num, x.1 = (8 + 9 * (2 * (j : Int) + 1)) * 32 * 10 := ⟨⟨(8 + 9 * (2 * (j : Int) + 1)) * 32 * 10, by omega⟩, rfl⟩
          have hs := decs_succ 4 10 l j hl.out hlt
          rw [show (2 * ((4 : Nat) : Int) + 9 * (2 * (j : Int) + 1)) * (128 / ((4 : Nat) : Int)) * 10 = (8 + 9 * (2 * (j : Int) + 1)) * 32 * 10 from by omega] at hs
          have E : Hid ((pre ++ [x]).map (·.1) = dec 2 1 ++ (decs 4 10).take (j + 1)) := by
            rw [Hid, hs, List.map_append, hpre.out, List.append_assoc]
            rw [List.map_cons, List.map_nil, hx]
          obtain ⟨fn, tmps, assign, body, hy, hR⟩ := hY pre x _ hJ (by omega)
          rw [hx] at hy
          have hR := hR.mono (R' := fun e W' => ∃ q : Bool, e = .returned (.bool q) ∧ Hid ((q = true ∧ J (pre ++ [x]) W') ∨ (q = false ∧ Jx (pre ++ [x]) W'))) (by
            rintro e W' (⟨rfl, h, _⟩ | ⟨rfl, h⟩)
            · exact ⟨true, rfl, .inl ⟨rfl, h⟩⟩
            · exact ⟨false, rfl, .inr ⟨rfl, h⟩⟩)
          clear hs hx
          gi_wp2_with fail
          refine hR.mono ?_
          rintro e W3 ⟨q, rfl, hq⟩
          cases q
          · rcases hq.out with ⟨h, _⟩ | ⟨_, hJx3⟩
            · cases h
            gi_wp2
            refine bodyPost_ret (results_none rfl _ _ _) rfl ?_
            exact ⟨⟨_, rfl⟩, .inr ⟨_, trivial, hJx3⟩⟩
          · rcases hq.out with ⟨_, hJ3⟩ | ⟨h, _⟩
            · gi_wp2
              exact ⟨⟨j + 1, _, _, by omega, by go_num, Lib.hid rfl, E, by simp; omega, hJ3⟩, by simp [intOf]; omega⟩
            · cases h
        · obtain rfl : j = 4 := by omega
          have E : Hid (pre.map (·.1) = dec 2 2) := by
            rw [Hid, hpre.out, hl.out, List.take_of_length_le (by simp [decs])]; rfl
          gi_wp2
          exact ⟨⟨2, pre, 8, 100, 2, by omega, rfl, rfl, rfl, Lib.hid ⟨by simp, by simp, by simp⟩, E, hJ⟩, by simp [intOf]⟩
    · obtain ⟨e1, e2, e3⟩ := hnt.out
      obtain rfl : nn = 8 := by simpa using e1
      obtain rfl : tt = 100 := by simpa using e2
      obtain rfl : ii = 2 := by simpa using e3
      clear e1 e2 e3 hnt
      gi_wp2
      gi_loopw [10] (fun i wr => ∃ (j : Nat) (pre : List Num) (l : List Int), j ≤ 8 ∧ i = .int .i64 j ∧ Hid (l = (decs 8 100).take j) ∧ Hid (pre.map (·.1) = dec 2 2 ++ l) ∧ pre.length ≤ 6 + j ∧ J pre wr) (fun i _ => 8 - (intOf i).toNat)
      case atStart => exact ⟨0, pre, [], by omega, rfl, Lib.hid rfl, Lib.hid (by rw [List.append_nil]; exact hpre.out), by have := congrArg List.length hpre.out; rw [List.length_map, show (dec 2 2).length = 6 from by decide +kernel] at this; omega, hJ⟩
      case round =>
        obtain ⟨j, pre, l, hj, rfl, hl, hpre, hlen, hJ⟩ := hrel
        by_cases hlt : j < 8
        · obtain ⟨x, hx⟩ : ∃ x : Num, x.1 = (16 + 9 * (2 * (j : Int) + 1)) * 16 * 100 := ⟨⟨(16 + 9 * (2 * (j : Int) + 1)) * 16 * 100, by omega⟩, rfl⟩
          have hs := decs_succ 8 100 l j hl.out hlt
          rw [show (2 * ((8 : Nat) : Int) + 9 * (2 * (j : Int) + 1)) * (128 / ((8 : Nat) : Int)) * 100 = (16 + 9 * (2 * (j : Int) + 1)) * 16 * 100 from by omega] at hs
          have E : Hid ((pre ++ [x]).map (·.1) = dec 2 2 ++ (decs 8 100).take (j + 1)) := by
            rw [Hid, hs, List.map_append, hpre.out, List.append_assoc]
            rw [List.map_cons, List.map_nil, hx]
          obtain ⟨fn, tmps, assign, body, hy, hR⟩ := hY pre x _ hJ (by omega)
          rw [hx] at hy
          have hR := hR.mono (R' := fun e W' => ∃ q : Bool, e = .returned (.bool q) ∧ Hid ((q = true ∧ J (pre ++ [x]) W') ∨ (q = false ∧ Jx (pre ++ [x]) W'))) (by
            rintro e W' (⟨rfl, h, _⟩ | ⟨rfl, h⟩)
            · exact ⟨true, rfl, .inl ⟨rfl, h⟩⟩
            · exact ⟨false, rfl, .inr ⟨rfl, h⟩⟩)
          clear hs hx
          gi_wp2_with fail
          refine hR.mono ?_
          rintro e W3 ⟨q, rfl, hq⟩
          cases q
          · rcases hq.out with ⟨h, _⟩ | ⟨_, hJx3⟩
            · cases h
            gi_wp2
            refine bodyPost_ret (results_none rfl _ _ _) rfl ?_
            exact ⟨⟨_, rfl⟩, .inr ⟨_, trivial, hJx3⟩⟩
          · rcases hq.out with ⟨_, hJ3⟩ | ⟨h, _⟩
            · gi_wp2
              exact ⟨⟨j + 1, _, _, by omega, by go_num, Lib.hid rfl, E, by simp; omega, hJ3⟩, by simp [intOf]; omega⟩
            · cases h
        · obtain rfl : j = 8 := by omega
          have E : Hid (pre.map (·.1) = dec 2 3) := by
            rw [Hid, hpre.out, hl.out, List.take_of_length_le (by simp [decs])]; rfl
          gi_wp2
          exact ⟨⟨3, pre, 16, 1000, 3, by omega, rfl, rfl, rfl, Lib.hid ⟨by simp, by simp, by simp⟩, E, hJ⟩, by simp [intOf]⟩
    · obtain ⟨e1, e2, e3⟩ := hnt.out
      obtain rfl : nn = 16 := by simpa using e1
      obtain rfl : tt = 1000 := by simpa using e2
      obtain rfl : ii = 3 := by simpa using e3
      clear e1 e2 e3 hnt
      gi_wp2
      gi_loopw [10] (fun i wr => ∃ (j : Nat) (pre : List Num) (l : List Int), j ≤ 16 ∧ i = .int .i64 j ∧ Hid (l = (decs 16 1000).take j) ∧ Hid (pre.map (·.1) = dec 2 3 ++ l) ∧ pre.length ≤ 14 + j ∧ J pre wr) (fun i _ => 16 - (intOf i).toNat)
      case atStart => exact ⟨0, pre, [], by omega, rfl, Lib.hid rfl, Lib.hid (by rw [List.append_nil]; exact hpre.out), by have := congrArg List.length hpre.out; rw [List.length_map, show (dec 2 3).length = 14 from by decide +kernel] at this; omega, hJ⟩
      case round =>
        obtain ⟨j, pre, l, hj, rfl, hl, hpre, hlen, hJ⟩ := hrel
        by_cases hlt : j < 16
        · obtain ⟨x, hx⟩ : ∃ x : Num, x.1 = (32 + 9 * (2 * (j : Int) + 1)) * 8 * 1000 := ⟨⟨(32 + 9 * (2 * (j : Int) + 1)) * 8 * 1000, by omega⟩, rfl⟩
          have hs := decs_succ 16 1000 l j hl.out hlt
          rw [show (2 * ((16 : Nat) : Int) + 9 * (2 * (j : Int) + 1)) * (128 / ((16 : Nat) : Int)) * 1000 = (32 + 9 * (2 * (j : Int) + 1)) * 8 * 1000 from by omega] at hs
          have E : Hid ((pre ++ [x]).map (·.1) = dec 2 3 ++ (decs 16 1000).take (j + 1)) := by
            rw [Hid, hs, List.map_append, hpre.out, List.append_assoc]
            rw [List.map_cons, List.map_nil, hx]
          obtain ⟨fn, tmps, assign, body, hy, hR⟩ := hY pre x _ hJ (by omega)
          rw [hx] at hy
          have hR := hR.mono (R' := fun e W' => ∃ q : Bool, e = .returned (.bool q) ∧ Hid ((q = true ∧ J (pre ++ [x]) W') ∨ (q = false ∧ Jx (pre ++ [x]) W'))) (by
            rintro e W' (⟨rfl, h, _⟩ | ⟨rfl, h⟩)
            · exact ⟨true, rfl, .inl ⟨rfl, h⟩⟩
            · exact ⟨false, rfl, .inr ⟨rfl, h⟩⟩)
          clear hs hx
          gi_wp2_with fail
          refine hR.mono ?_
          rintro e W3 ⟨q, rfl, hq⟩
          cases q
          · rcases hq.out with ⟨h, _⟩ | ⟨_, hJx3⟩
            · cases h
            gi_wp2
            refine bodyPost_ret (results_none rfl _ _ _) rfl ?_
            exact ⟨⟨_, rfl⟩, .inr ⟨_, trivial, hJx3⟩⟩
          · rcases hq.out with ⟨_, hJ3⟩ | ⟨h, _⟩
            · gi_wp2
              exact ⟨⟨j + 1, _, _, by omega, by go_num, Lib.hid rfl, E, by simp; omega, hJ3⟩, by simp [intOf]; omega⟩
            · cases h
        · obtain rfl : j = 16 := by omega
          have E : Hid (pre.map (·.1) = dec 2 4) := by
            rw [Hid, hpre.out, hl.out, List.take_of_length_le (by simp [decs])]; rfl
          gi_wp2
          exact ⟨⟨4, pre, 32, 10000, 4, by omega, rfl, rfl, rfl, Lib.hid ⟨by simp, by simp, by simp⟩, E, hJ⟩, by simp [intOf]⟩
    · obtain ⟨e1, e2, e3⟩ := hnt.out
      obtain rfl : nn = 32 := by simpa using e1
      obtain rfl : tt = 10000 := by simpa using e2
      obtain rfl : ii = 4 := by simpa using e3
      clear e1 e2 e3 hnt
      gi_wp2
      gi_loopw [10] (fun i wr => ∃ (j : Nat) (pre : List Num) (l : List Int), j ≤ 32 ∧ i = .int .i64 j ∧ Hid (l = (decs 32 10000).take j) ∧ Hid (pre.map (·.1) = dec 2 4 ++ l) ∧ pre.length ≤ 30 + j ∧ J pre wr) (fun i _ => 32 - (intOf i).toNat)
      case atStart => exact ⟨0, pre, [], by omega, rfl, Lib.hid rfl, Lib.hid (by rw [List.append_nil]; exact hpre.out), by have := congrArg List.length hpre.out; rw [List.length_map, show (dec 2 4).length = 30 from by decide +kernel] at this; omega, hJ⟩
      case round =>
        obtain ⟨j, pre, l, hj, rfl, hl, hpre, hlen, hJ⟩ := hrel
        by_cases hlt : j < 32
        · obtain ⟨x, hx⟩ : ∃ x : Num, x.1 = (64 + 9 * (2 * (j : Int) + 1)) * 4 * 10000 := ⟨⟨(64 + 9 * (2 * (j : Int) + 1)) * 4 * 10000, by omega⟩, rfl⟩
          have hs := decs_succ 32 10000 l j hl.out hlt
          rw [show (2 * ((32 : Nat) : Int) + 9 * (2 * (j : Int) + 1)) * (128 / ((32 : Nat) : Int)) * 10000 = (64 + 9 * (2 * (j : Int) + 1)) * 4 * 10000 from by omega] at hs
          have E : Hid ((pre ++ [x]).map (·.1) = dec 2 4 ++ (decs 32 10000).take (j + 1)) := by
            rw [Hid, hs, List.map_append, hpre.out, List.append_assoc]
            rw [List.map_cons, List.map_nil, hx]
          obtain ⟨fn, tmps, assign, body, hy, hR⟩ := hY pre x _ hJ (by omega)
          rw [hx] at hy
          have hR := hR.mono (R' := fun e W' => ∃ q : Bool, e = .returned (.bool q) ∧ Hid ((q = true ∧ J (pre ++ [x]) W') ∨ (q = false ∧ Jx (pre ++ [x]) W'))) (by
            rintro e W' (⟨rfl, h, _⟩ | ⟨rfl, h⟩)
            · exact ⟨true, rfl, .inl ⟨rfl, h⟩⟩
            · exact ⟨false, rfl, .inr ⟨rfl, h⟩⟩)
          clear hs hx
          gi_wp2_with fail
          refine hR.mono ?_
          rintro e W3 ⟨q, rfl, hq⟩
          cases q
          · rcases hq.out with ⟨h, _⟩ | ⟨_, hJx3⟩
            · cases h
            gi_wp2
            refine bodyPost_ret (results_none rfl _ _ _) rfl ?_
            exact ⟨⟨_, rfl⟩, .inr ⟨_, trivial, hJx3⟩⟩
          · rcases hq.out with ⟨_, hJ3⟩ | ⟨h, _⟩
            · gi_wp2
              exact ⟨⟨j + 1, _, _, by omega, by go_num, Lib.hid rfl, E, by simp; omega, hJ3⟩, by simp [intOf]; omega⟩
            · cases h
        · obtain rfl : j = 32 := by omega
          have E : Hid (pre.map (·.1) = dec 2 5) := by
            rw [Hid, hpre.out, hl.out, List.take_of_length_le (by simp [decs])]; rfl
          gi_wp2
          exact ⟨⟨5, pre, 64, 100000, 5, by omega, rfl, rfl, rfl, Lib.hid ⟨by simp, by simp, by simp⟩, E, hJ⟩, by simp [intOf]⟩
    · obtain ⟨e1, e2, e3⟩ := hnt.out
      obtain rfl : nn = 64 := by simpa using e1
      obtain rfl : tt = 100000 := by simpa using e2
      obtain rfl : ii = 5 := by simpa using e3
      clear e1 e2 e3 hnt
      gi_wp2
      gi_loopw [10] (fun i wr => ∃ (j : Nat) (pre : List Num) (l : List Int), j ≤ 64 ∧ i = .int .i64 j ∧ Hid (l = (decs 64 100000).take j) ∧ Hid (pre.map (·.1) = dec 2 5 ++ l) ∧ pre.length ≤ 62 + j ∧ J pre wr) (fun i _ => 64 - (intOf i).toNat)
      case atStart => exact ⟨0, pre, [], by omega, rfl, Lib.hid rfl, Lib.hid (by rw [List.append_nil]; exact hpre.out), by have := congrArg List.length hpre.out; rw [List.length_map, show (dec 2 5).length = 62 from by decide +kernel] at this; omega, hJ⟩
      case round =>
        obtain ⟨j, pre, l, hj, rfl, hl, hpre, hlen, hJ⟩ := hrel
        by_cases hlt : j < 64
        · obtain ⟨x, hx⟩ : ∃ x : Num, x.1 = (128 + 9 * (2 * (j : Int) + 1)) * 2 * 100000 := ⟨⟨(128 + 9 * (2 * (j : Int) + 1)) * 2 * 100000, by omega⟩, rfl⟩
          have hs := decs_succ 64 100000 l j hl.out hlt
          rw [show (2 * ((64 : Nat) : Int) + 9 * (2 * (j : Int) + 1)) * (128 / ((64 : Nat) : Int)) * 100000 = (128 + 9 * (2 * (j : Int) + 1)) * 2 * 100000 from by omega] at hs
          have E : Hid ((pre ++ [x]).map (·.1) = dec 2 5 ++ (decs 64 100000).take (j + 1)) := by
            rw [Hid, hs, List.map_append, hpre.out, List.append_assoc]
            rw [List.map_cons, List.map_nil, hx]
          obtain ⟨fn, tmps, assign, body, hy, hR⟩ := hY pre x _ hJ (by omega)
          rw [hx] at hy
          have hR := hR.mono (R' := fun e W' => ∃ q : Bool, e = .returned (.bool q) ∧ Hid ((q = true ∧ J (pre ++ [x]) W') ∨ (q = false ∧ Jx (pre ++ [x]) W'))) (by
            rintro e W' (⟨rfl, h, _⟩ | ⟨rfl, h⟩)
            · exact ⟨true, rfl, .inl ⟨rfl, h⟩⟩
            · exact ⟨false, rfl, .inr ⟨rfl, h⟩⟩)
          clear hs hx
          gi_wp2_with fail
          refine hR.mono ?_
          rintro e W3 ⟨q, rfl, hq⟩
          cases q
          · rcases hq.out with ⟨h, _⟩ | ⟨_, hJx3⟩
            · cases h
            gi_wp2
            refine bodyPost_ret (results_none rfl _ _ _) rfl ?_
            exact ⟨⟨_, rfl⟩, .inr ⟨_, trivial, hJx3⟩⟩
          · rcases hq.out with ⟨_, hJ3⟩ | ⟨h, _⟩
            · gi_wp2
              exact ⟨⟨j + 1, _, _, by omega, by go_num, Lib.hid rfl, E, by simp; omega, hJ3⟩, by simp [intOf]; omega⟩
            · cases h
        · obtain rfl : j = 64 := by omega
          have E : Hid (pre.map (·.1) = dec 2 6) := by
            rw [Hid, hpre.out, hl.out, List.take_of_length_le (by simp [decs])]; rfl
          gi_wp2
          exact ⟨⟨6, pre, 128, 1000000, 6, by omega, rfl, rfl, rfl, Lib.hid ⟨by simp, by simp, by simp⟩, E, hJ⟩, by simp [intOf]⟩
    · obtain ⟨e1, e2, e3⟩ := hnt.out
      obtain rfl : nn = 128 := by simpa using e1
      obtain rfl : tt = 1000000 := by simpa using e2
      obtain rfl : ii = 6 := by simpa using e3
      clear e1 e2 e3 hnt
      gi_wp2
      gi_loopw [10] (fun i wr => ∃ (j : Nat) (pre : List Num) (l : List Int), j ≤ 128 ∧ i = .int .i64 j ∧ Hid (l = (decs 128 1000000).take j) ∧ Hid (pre.map (·.1) = dec 2 6 ++ l) ∧ pre.length ≤ 126 + j ∧ J pre wr) (fun i _ => 128 - (intOf i).toNat)
      case atStart => exact ⟨0, pre, [], by omega, rfl, Lib.hid rfl, Lib.hid (by rw [List.append_nil]; exact hpre.out), by have := congrArg List.length hpre.out; rw [List.length_map, show (dec 2 6).length = 126 from by decide +kernel] at this; omega, hJ⟩
      case round =>
        obtain ⟨j, pre, l, hj, rfl, hl, hpre, hlen, hJ⟩ := hrel
        by_cases hlt : j < 128
        · obtain ⟨x, hx⟩ : ∃ x : Num, x.1 = (256 + 9 * (2 * (j : Int) + 1)) * 1000000 := ⟨⟨(256 + 9 * (2 * (j : Int) + 1)) * 1000000, by omega⟩, rfl⟩
          have hs := decs_succ 128 1000000 l j hl.out hlt
          rw [show (2 * ((128 : Nat) : Int) + 9 * (2 * (j : Int) + 1)) * (128 / ((128 : Nat) : Int)) * 1000000 = (256 + 9 * (2 * (j : Int) + 1)) * 1000000 from by omega] at hs
          have E : Hid ((pre ++ [x]).map (·.1) = dec 2 6 ++ (decs 128 1000000).take (j + 1)) := by
            rw [Hid, hs, List.map_append, hpre.out, List.append_assoc]
            rw [List.map_cons, List.map_nil, hx]
          obtain ⟨fn, tmps, assign, body, hy, hR⟩ := hY pre x _ hJ (by omega)
          rw [hx] at hy
          have hR := hR.mono (R' := fun e W' => ∃ q : Bool, e = .returned (.bool q) ∧ Hid ((q = true ∧ J (pre ++ [x]) W') ∨ (q = false ∧ Jx (pre ++ [x]) W'))) (by
            rintro e W' (⟨rfl, h, _⟩ | ⟨rfl, h⟩)
            · exact ⟨true, rfl, .inl ⟨rfl, h⟩⟩
            · exact ⟨false, rfl, .inr ⟨rfl, h⟩⟩)
          clear hs hx
          gi_wp2_with fail
          refine hR.mono ?_
          rintro e W3 ⟨q, rfl, hq⟩
          cases q
          · rcases hq.out with ⟨h, _⟩ | ⟨_, hJx3⟩
            · cases h
            gi_wp2
            refine bodyPost_ret (results_none rfl _ _ _) rfl ?_
            exact ⟨⟨_, rfl⟩, .inr ⟨_, trivial, hJx3⟩⟩
          · rcases hq.out with ⟨_, hJ3⟩ | ⟨h, _⟩
            · gi_wp2
              exact ⟨⟨j + 1, _, _, by omega, by go_num, Lib.hid rfl, E, by simp; omega, hJ3⟩, by simp [intOf]; omega⟩
            · cases h
        · obtain rfl : j = 128 := by omega
          have E : Hid (pre.map (·.1) = dec 2 7) := by
            rw [Hid, hpre.out, hl.out, List.take_of_length_le (by simp [decs])]; rfl
          gi_wp2
          exact ⟨⟨7, pre, 256, 10000000, 7, by omega, rfl, rfl, rfl, Lib.hid ⟨by simp, by simp, by simp⟩, E, hJ⟩, by simp [intOf]⟩
    · obtain ⟨e1, e2, e3⟩ := hnt.out
      obtain rfl : ii = 7 := by simpa using e3
      clear e1 e2 e3 hnt
      gi_wp2
      go_end0
      exact ⟨⟨_, rfl⟩, .inl ⟨_, hpre.out, hJ⟩⟩
end Go.Proofs.YtochabikpaoalaaGreat
