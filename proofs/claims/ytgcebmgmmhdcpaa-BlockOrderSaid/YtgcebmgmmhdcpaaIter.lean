/- The iterators over limbs: backwards over one slice, and side by side over two. -/
import Derived.Test.YtgcebmgmmhdcpaaNat1
import Derived.RangeFuncNested
import Derived.RangeFuncBound
import Derived.RangeFuncCalls
import Derived.RangeFuncLeaves
import Derived.Shelf.Abstract
import Derived.Shelf.RegionOpen
import Derived.OwnWalkIn
import Derived.TacticsInMore
import Derived.LoopNIn
import Derived.LoopIn
import Derived.BigQuiet
namespace Go.Proofs.Ytgcebmgmmhdcpaa
open Go.RowKit Go.Shelf
attribute [local go_sem] Oper.semAt_some

abbrev Idx (n : Nat) := { i : Nat // i < n }
/-- what has come when k rounds of 'backward' over n places are over -/
def back (n k : Nat) : List Nat := (List.range k).map fun j => n - 1 - j
theorem back_succ (n k : Nat) : back n (k + 1) = back n k ++ [n - 1 - k] := by simp [back, List.range_succ]
theorem back_length (n k : Nat) : (back n k).length = k := by simp [back]

set_option maxRecDepth 100000 in
set_option maxHeartbeats 1000000 in
theorem back1_in (F : Fence) (n : Nat) (h7 : F.fn 62) (hro : F.round = none) (hn : 1 ≤ n) (lr Bs n₀ c : Nat) (A : Option Addr) (l : List Nat) (hl : l.length ≤ 9223372036854775807) (J Jx : List (Idx l.length) → World → Prop)
    (hY : ∀ pre x W, J pre W → pre.length < l.length → YieldAt F (n - 1) Try.prog lr #[.int .i64 (x.1 : Nat), .int .u64 (lat l x.1 : Nat)] W fun e W' =>
      (e = .returned (.bool true) ∧ J (pre ++ [x]) W' ∧ Below n₀ W W') ∨ (e = .returned (.bool false) ∧ Jx (pre ++ [x]) W'))
    (W : World) (hBs : W.cell? ⟨Bs, 0, none⟩ = some (.slice A l.length c)) (hB : Bs < n₀) (hr : Reads W n₀ 1 A l.length (us l)) (h0 : J [] W) :
    CallsIn F n Try.prog 62 #[.func (.yield lr) #[] #[], .pointer (some ⟨Bs, 0, none⟩)] W fun e W' => (∃ v, e = .returned v) ∧
      ((∃ ys : List (Idx l.length), ys.map (·.1) = back l.length l.length ∧ J ys W') ∨ (∃ pre : List (Idx l.length), (∃ k, k ≤ l.length ∧ pre.map (·.1) = back l.length k) ∧ Jx pre W')) := by
  refine callsIn_of_wp Try.func62 rfl h7 ?_ hro
  simp only [Try.ntmps62, List.size_toArray, List.length_cons, List.length_nil, Nat.reduceAdd, Nat.reduceSub, Array.replicate_succ, Array.replicate_zero, List.push_toArray, List.append_toArray, List.nil_append, List.cons_append]
  gi_wp2
  gi_loopw [3] (fun i wr => ∃ (k : Nat) (pre : List (Idx l.length)), k ≤ l.length ∧ i = .int .i64 ((l.length : Int) - 1 - (k : Int)) ∧ Hid (pre.map (·.1) = back l.length k) ∧ J pre wr ∧ Below n₀ W wr)
    (fun i _ => (intOf i + 1).toNat)
  case atStart => exact ⟨0, [], Nat.zero_le _, by simp, Lib.hid rfl, h0, Below.refl _ _⟩
  case round =>
    obtain ⟨k, pre, hk, rfl, hpre, hJs, hnx⟩ := hrel
    by_cases hlt : k < l.length
    · have hpl : pre.length < l.length := by have := congrArg List.length hpre.out; rw [List.length_map, back_length] at this; omega
      have hnew : ∀ h : l.length - 1 - k < l.length, (pre ++ [(⟨l.length - 1 - k, h⟩ : Idx l.length)]).map (·.1) = back l.length (k + 1) := fun h => by
        rw [List.map_append, hpre.out, back_succ]; rfl
      obtain ⟨fn, tmps, assign, body, hy, hR⟩ := hY pre ⟨l.length - 1 - k, by omega⟩ wr hJs hpl
      dsimp only at hy
      rw [show ((l.length - 1 - k : Nat) : Int) = (l.length : Int) - 1 - (k : Int) from by omega] at hy
      obtain ⟨ad, rfl, hb, hcx⟩ := us_cell (hr.below hnx) (k := l.length - 1 - k) (by omega)
      have hBs' := (hnx.cell (p := ⟨Bs, 0, none⟩) hB).trans hBs
      have hnew' := Lib.hid (hnew (by omega))
      clear hnew hpl
      gi_wp2
      refine hR.mono ?_
      rintro e W3 (⟨rfl, hJ3, hk3⟩ | ⟨rfl, hJx3⟩)
      · gi_wp2
        go_roundw
        case rel => exact ⟨k + 1, _, by omega, by go_num, hnew', hJ3, hnx.trans hk3⟩
        case measure => simp [intOf]; omega
      · gi_wp2
        refine bodyPost_ret (results_none rfl _ _ _) rfl ?_
        exact ⟨⟨_, rfl⟩, .inr ⟨_, ⟨k + 1, by omega, hnew'.out⟩, hJx3⟩⟩
    · obtain rfl : k = l.length := by omega
      gi_wp2
      go_end0
      exact ⟨⟨_, rfl⟩, .inl ⟨_, hpre.out, hJs⟩⟩

set_option maxHeartbeats 1000000 in
theorem backward_in (F : Fence) (n : Nat) (h5 : F.fn 53) (hro : F.round = none) (A : Option Addr) (m c : Nat) (w : World) :
    CallsIn F n Try.prog 53 #[.slice A m c] w fun e w' => e = .returned (.func (.func 62) #[] #[.pointer (some ⟨w.heap.size, 0, none⟩)]) ∧ w' = w.alloc (.cells #[.slice A m c] 57) := by
  refine callsIn_of_wp Try.func53 rfl h5 ?_ hro
  simp only [Try.ntmps53, List.size_toArray, List.length_cons, List.length_nil, Nat.reduceAdd, Nat.reduceSub, Array.replicate_succ, Array.replicate_zero, List.push_toArray, List.append_toArray, List.nil_append, List.cons_append]
  gi_wp2
  go_ret
  exact ⟨rfl, rfl⟩

theorem backward_stops (F : Fence) (n : Nat) (h7 : F.fn 62) (hro : F.round = none) (hn : 1 ≤ n) (Bs n₀ c : Nat) (A : Option Addr) (l : List Nat) (hl : l.length ≤ 9223372036854775807) (w : World) (hBs : Bs < n₀) (hn₀ : n₀ ≤ w.heap.size)
    (hc : w.cell? ⟨Bs, 0, none⟩ = some (.slice A l.length c)) (hr : Reads w n₀ 1 A l.length (us l)) :
    SeqStopsK F n Try.prog 62 #[.pointer (some ⟨Bs, 0, none⟩)] (fun x : Idx l.length => #[Value.int .i64 (x.1 : Nat), Value.int .u64 (lat l x.1 : Nat)]) (Below n₀) (fun ys => ys.map (·.1) = back l.length l.length)
      (fun pre => ∃ k, k ≤ l.length ∧ pre.map (·.1) = back l.length k) l.length w := fun lr J Jx W hW _ _ hY h0 =>
  back1_in F n h7 hro hn lr Bs n₀ c A l hl J Jx hY W ((hW.cell (p := ⟨Bs, 0, none⟩) (by simp; omega)).trans hc) hBs (hr.below (hW.mono hn₀)) h0
end Go.Proofs.Ytgcebmgmmhdcpaa
