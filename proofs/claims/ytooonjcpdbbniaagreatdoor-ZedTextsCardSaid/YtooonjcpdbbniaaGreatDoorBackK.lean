/- Backwards over limbs, where a round may write what lies below the iterator's box. Printed by gen_backk.py. -/
import Derived.Test.YtooonjcpdbbniaaGreatDoorMul
import Derived.Test.YtooonjcpdbbniaaGreatDoorKR
namespace Go.Proofs.YtooonjcpdbbniaaGreatDoor
open Go.RowKit Go.Shelf
attribute [local go_sem] Oper.semAt_some
set_option maxRecDepth 100000 in
set_option maxHeartbeats 1000000 in
theorem backK1_in (F : Fence) (n : Nat) (h7 : F.fn 88) (hro : F.round = none) (hn : 1 ≤ n) (lr Bs n₀ c : Nat) (A : Option Addr) (l : List Nat) (hl : l.length ≤ 9223372036854775807) (J Jx : List (Idx l.length) → World → Prop)
    (hY : ∀ pre x W, J pre W → pre.length < l.length → YieldAt F (n - 1) Tryz.prog lr #[.int .i64 (x.1 : Nat), .int .u64 (lat l x.1 : Nat)] W fun e W' =>
      (e = .returned (.bool true) ∧ J (pre ++ [x]) W' ∧ KR n₀ Bs (Bs + 1) W W') ∨ (e = .returned (.bool false) ∧ Jx (pre ++ [x]) W'))
    (W : World) (hBs : W.cell? ⟨Bs, 0, none⟩ = some (.slice A l.length c)) (hr : Reads W n₀ 1 A l.length (us l)) (h0 : J [] W) :
    CallsIn F n Tryz.prog 88 #[.func (.yield lr) #[] #[], .pointer (some ⟨Bs, 0, none⟩)] W fun e W' => (∃ v, e = .returned v) ∧
      ((∃ ys : List (Idx l.length), ys.map (·.1) = back l.length l.length ∧ J ys W') ∨ (∃ pre : List (Idx l.length), (∃ k, k ≤ l.length ∧ pre.map (·.1) = back l.length k) ∧ Jx pre W')) := by
  refine callsIn_of_wp Tryz.func88 rfl h7 ?_ hro
  simp only [Tryz.ntmps88, List.size_toArray, List.length_cons, List.length_nil, Nat.reduceAdd, Nat.reduceSub, Array.replicate_succ, Array.replicate_zero, List.push_toArray, List.append_toArray, List.nil_append, List.cons_append]
  gi_wp2
  gi_loopw [3] (fun i wr => ∃ (k : Nat) (pre : List (Idx l.length)), k ≤ l.length ∧ i = .int .i64 ((l.length : Int) - 1 - (k : Int)) ∧ Hid (pre.map (·.1) = back l.length k) ∧ J pre wr ∧ KR n₀ Bs (Bs + 1) W wr)
    (fun i _ => (intOf i + 1).toNat)
  case atStart => exact ⟨0, [], Nat.zero_le _, by simp, Lib.hid rfl, h0, KR.refl _ _ _ _⟩
  case round =>
    obtain ⟨k, pre, hk, rfl, hpre, hJs, hnx⟩ := hrel
    by_cases hlt : k < l.length
    · have hpl : pre.length < l.length := by have := congrArg List.length hpre.out; rw [List.length_map, back_length] at this; omega
      have hnew : ∀ h : l.length - 1 - k < l.length, (pre ++ [(⟨l.length - 1 - k, h⟩ : Idx l.length)]).map (·.1) = back l.length (k + 1) := fun h => by
        rw [List.map_append, hpre.out, back_succ]; rfl
      obtain ⟨fn, tmps, assign, body, hy, hR⟩ := hY pre ⟨l.length - 1 - k, by omega⟩ wr hJs hpl
      dsimp only at hy
      rw [show ((l.length - 1 - k : Nat) : Int) = (l.length : Int) - 1 - (k : Int) from by omega] at hy
      obtain ⟨ad, rfl, hb, hcx⟩ := us_cell (hr.below hnx.low) (k := l.length - 1 - k) (by omega)
      have hBs' := (hnx.cell (b := Bs) (o := 0) (Nat.le_refl _) (Nat.lt_succ_self _)).trans hBs
      have hnew' := Lib.hid (hnew (by omega))
      clear hnew hpl
      gi_wp2
      refine hR.mono ?_
      rintro e W3 (⟨rfl, hJ3, hk3⟩ | ⟨rfl, hJx3⟩)
      · gi_wp2
        go_roundw
        case rel => exact ⟨k + 1, _, by omega, by go_num, hnew', hJ3, KR.trans hnx hk3⟩
        case measure => simp [intOf]; omega
      · gi_wp2
        refine bodyPost_ret (results_none rfl _ _ _) rfl ?_
        exact ⟨⟨_, rfl⟩, .inr ⟨_, ⟨k + 1, by omega, hnew'.out⟩, hJx3⟩⟩
    · obtain rfl : k = l.length := by omega
      gi_wp2
      go_end0
      exact ⟨⟨_, rfl⟩, .inl ⟨_, hpre.out, hJs⟩⟩

theorem backK_stops (F : Fence) (n : Nat) (h7 : F.fn 88) (hro : F.round = none) (hn : 1 ≤ n) (Bs n₀ c : Nat) (A : Option Addr) (l : List Nat) (hl : l.length ≤ 9223372036854775807) (w : World) (hBs : Bs < w.heap.size) (hn₀ : n₀ ≤ w.heap.size)
    (hc : w.cell? ⟨Bs, 0, none⟩ = some (.slice A l.length c)) (hr : Reads w n₀ 1 A l.length (us l)) :
    SeqStopsK F n Tryz.prog 88 #[.pointer (some ⟨Bs, 0, none⟩)] (fun x : Idx l.length => #[Value.int .i64 (x.1 : Nat), Value.int .u64 (lat l x.1 : Nat)]) (KR n₀ Bs (Bs + 1)) (fun ys => ys.map (·.1) = back l.length l.length)
      (fun pre => ∃ k, k ≤ l.length ∧ pre.map (·.1) = back l.length k) l.length w := fun lr J Jx W hW _ _ hY h0 =>
  backK1_in F n h7 hro hn lr Bs n₀ c A l hl J Jx hY W ((hW.cell (p := ⟨Bs, 0, none⟩) (by simp; omega)).trans hc) (hr.below (hW.mono hn₀)) h0
end Go.Proofs.YtooonjcpdbbniaaGreatDoor
