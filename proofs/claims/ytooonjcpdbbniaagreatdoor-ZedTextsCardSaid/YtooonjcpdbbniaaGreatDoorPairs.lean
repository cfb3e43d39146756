/- nat.pairs: an iterator over two rows of limbs side by side. -/
import Derived.Test.YtooonjcpdbbniaaGreatDoorMul
import Derived.Test.YtooonjcpdbbniaaGreatDoorRef2
import Derived.Test.YtooonjcpdbbniaaGreatDoorStill
import Derived.Test.YtooonjcpdbbniaaGreatDoorKR
import Derived.Outline
import Derived.Laws.EntriesVeiled
namespace Go.Proofs.YtooonjcpdbbniaaGreatDoor
open Go.RowKit Go.Shelf
attribute [local go_sem] Oper.semAt_some

set_option maxHeartbeats 400000 in
theorem pat_any (A : Option Addr) (l : List Nat) (c : Nat) (i : Nat) (w : World) (B : Nat) (hr : Reads w B 1 A l.length (us l)) (_ : l.length ≤ 9223372036854775807) :
    Calls Tryz.prog 85 #[.slice A l.length c, .int .i64 i] w fun e w' => e = .returned (.int .u64 (lat l i : Nat)) ∧ w = w' := by
  by_cases h : i < l.length
  · obtain ⟨ad, rfl, hb, hc⟩ := us_cell hr h
    go_enter Tryz.func85, Tryz.ntmps85
    go_wp2
    go_ret
    exact ⟨rfl, rfl⟩
  · rw [lat_ge (by omega)]
    go_enter Tryz.func85, Tryz.ntmps85
    go_wp2
    go_ret
    exact ⟨rfl, rfl⟩

set_option maxHeartbeats 400000 in
theorem pairs_in (n : Nat) (A B : Option Addr) (la lb ca cb : Nat) (w : World) :
    CallsIn Fence.wide n Tryz.prog 54 #[.slice A la ca, .slice B lb cb] w fun e w' => e = .returned (.func (.func 86) #[] #[.pointer (some ⟨w.heap.size, 0, none⟩), .pointer (some ⟨w.heap.size + 1, 0, none⟩), .pointer (some ⟨w.heap.size + 2, 0, none⟩)]) ∧
      w' = ((w.alloc (.cells #[.slice A la ca] 23)).alloc (.cells #[.slice B lb cb] 23)).alloc (.cells #[.func (.func 85) #[] #[]] 104) := by
  refine callsIn_wide.2 ?_
  have hmf : ∀ (fn : Fn) (first cap : Array Value) (w : World), (Instr.makeFunc fn first cap).run Tryz.prog w = .ok (.func fn first cap) w := fun _ _ _ _ => rfl
  go_enter Tryz.func54, Tryz.ntmps54
  go_wp2
  go_ret
  exact ⟨rfl, rfl⟩

abbrev Pair2 := { p : Nat × Nat // p.1 < W64 ∧ p.2 < W64 }
/-- what has come when k rounds are over -/
def pairsTo (a b : List Nat) (k : Nat) : List (Nat × Nat) := (List.range k).map fun j => (lat a j, lat b j)
theorem pairsTo_succ (a b : List Nat) (k : Nat) : pairsTo a b (k + 1) = pairsTo a b k ++ [(lat a k, lat b k)] := by simp [pairsTo, List.range_succ]
theorem pairsTo_length (a b : List Nat) (k : Nat) : (pairsTo a b k).length = k := by simp [pairsTo]

set_option maxRecDepth 100000 in
set_option maxHeartbeats 1000000 in
theorem pairs1_in (lr B0 n₀ ca cb : Nat) (A B : Option Addr) (a b : List Nat) (ha : a.length ≤ 9223372036854775807) (hb : b.length ≤ 9223372036854775807) (hba : Bd a) (hbb : Bd b) (J Jx : List Pair2 → World → Prop) (hJd : ∀ pre W, J pre W → J pre W.drew)
    (hY : ∀ pre x W, J pre W → pre.length < max a.length b.length → YieldAt Fence.wide (8 - 1) Tryz.prog lr #[.int .u64 (x.1.1 : Nat), .int .u64 (x.1.2 : Nat)] W fun e W' =>
      (e = .returned (.bool true) ∧ J (pre ++ [x]) W' ∧ KR n₀ B0 (B0 + 3) W W') ∨ (e = .returned (.bool false) ∧ Jx (pre ++ [x]) W'))
    (W : World) (h1 : W.cell? ⟨B0, 0, none⟩ = some (.slice A a.length ca)) (h2 : W.cell? ⟨B0 + 1, 0, none⟩ = some (.slice B b.length cb)) (h3 : W.cell? ⟨B0 + 2, 0, none⟩ = some (.func (.func 85) #[] #[])) 
    (hra : Reads W n₀ 1 A a.length (us a)) (hrb : Reads W n₀ 1 B b.length (us b)) (h0 : J [] W) :
    CallsIn Fence.wide 8 Tryz.prog 86 #[.func (.yield lr) #[] #[], .pointer (some ⟨B0, 0, none⟩), .pointer (some ⟨B0 + 1, 0, none⟩), .pointer (some ⟨B0 + 2, 0, none⟩)] W fun e W' => (∃ v, e = .returned v) ∧
      ((∃ ys : List Pair2, ys.map (·.1) = pairsTo a b (max a.length b.length) ∧ J ys W') ∨ (∃ pre : List Pair2, (∃ k, k ≤ max a.length b.length ∧ pre.map (·.1) = pairsTo a b k) ∧ Jx pre W')) := by
  have hmx : Tryz.prog.follows .mixedOrders = true := by kernel_rfl
  refine callsIn_of_wp Tryz.func86 rfl trivial ?_ rfl
  simp only [Tryz.ntmps86, List.size_toArray, List.length_cons, List.length_nil, Nat.reduceAdd, Nat.reduceSub, Array.replicate_succ, Array.replicate_zero, List.push_toArray, List.append_toArray, List.nil_append, List.cons_append]
  obtain ⟨m, hm⟩ : ∃ m, m = max a.length b.length := ⟨_, rfl⟩
  rw [← hm] at hY ⊢
  have hmax := fun t y W => run_max_nat (P := Tryz.prog) t y W a.length b.length
  rw [← hm] at hmax
  have hma : a.length ≤ m := by omega
  have hmb : b.length ≤ m := by omega
  have hmm : m ≤ 9223372036854775807 := by omega
  clear hm
  gi_wp2
  gi_loopw [11] (fun i wr => ∃ (k : Nat) (pre : List Pair2), k ≤ m ∧ i = .int .i64 k ∧ Hid (pre.map (·.1) = pairsTo a b k) ∧ J pre wr ∧ KR n₀ B0 (B0 + 3) W wr)
    (fun i _ => m - (intOf i).toNat)
  case atStart => exact ⟨0, [], Nat.zero_le _, by simp, Lib.hid rfl, h0, KR.refl _ _ _ _⟩
  case round =>
    obtain ⟨k, pre, hk, rfl, hpre, hJs, hnx⟩ := hrel
    by_cases hlt : k < m
    · obtain ⟨fn, tmps, assign, body, hy, hR⟩ := hY pre ⟨(lat a k, lat b k), hba.lat k, hbb.lat k⟩ wr.drew (hJd _ _ hJs) (by have := congrArg List.length hpre.out; rw [List.length_map, pairsTo_length] at this; omega)
      dsimp only at hy
      have g1 := (hnx.cell (by omega) (by omega)).trans h1
      have g2 := (hnx.cell (by omega) (by omega)).trans h2
      have g3 := (hnx.cell (by omega) (by omega)).trans h3
      obtain ⟨x, hx⟩ : ∃ x : Pair2, x = ⟨(lat a k, lat b k), hba.lat k, hbb.lat k⟩ := ⟨_, rfl⟩
      rw [← hx] at hR
      have hnew : Hid ((pre ++ [x]).map (·.1) = pairsTo a b (k + 1)) := by rw [Hid, List.map_append, hpre.out, pairsTo_succ, hx]; rfl
      clear hx
      have hR := hR.mono (R' := fun e W' => ∃ q : Bool, e = .returned (.bool q) ∧ Hid ((q = true ∧ J (pre ++ [x]) W' ∧ KR n₀ B0 (B0 + 3) wr.drew W') ∨ (q = false ∧ Jx (pre ++ [x]) W'))) (by
        rintro e W' (⟨rfl, h, h'⟩ | ⟨rfl, h⟩)
        · exact ⟨true, rfl, .inl ⟨rfl, h, h'⟩⟩
        · exact ⟨false, rfl, .inr ⟨rfl, h⟩⟩)
      have c1 := (pat_any A a ca k wr.drew n₀ (hra.below hnx.low).drew ha).mono (R' := fun e w' => e = .returned (.int .u64 (lat a k : Nat)) ∧ w' = wr.drew) (fun _ _ ⟨h, h'⟩ => ⟨h, h'.symm⟩)
      have c2 := (pat_any B b cb k wr.drew n₀ (hrb.below hnx.low).drew hb).mono (R' := fun e w' => e = .returned (.int .u64 (lat b k : Nat)) ∧ w' = wr.drew) (fun _ _ ⟨h, h'⟩ => ⟨h, h'.symm⟩)
      have C1 := Lib.hid c1
      have C2 := Lib.hid c2
      clear c1 c2
      gi_wp2
      refine wpInW_region_still_tail 9 hmx (by kernel_rfl) ?_
      simp only [List.take_succ_cons, List.take_zero, List.drop_succ_cons, List.drop_zero]
      iterate 4 still_step
      still_call C1.out
      iterate 3 still_step
      still_call C2.out
      refine wpStill_nil ?_
      gi_wp2_with fail
      refine hR.mono ?_
      rintro e W3 ⟨q, rfl, hq⟩
      cases q
      · rcases hq.out with ⟨h, _⟩ | ⟨_, hJx3⟩
        · cases h
        gi_wp2
        refine bodyPost_ret (results_none rfl _ _ _) rfl ?_
        exact ⟨⟨_, rfl⟩, .inr ⟨_, ⟨k + 1, by omega, hnew.out⟩, hJx3⟩⟩
      · rcases hq.out with ⟨_, hJ3, hk3⟩ | ⟨h, _⟩
        · gi_wp2
          exact ⟨⟨k + 1, _, by omega, by go_num, hnew, hJ3, hnx.drew.trans hk3⟩, by simp [intOf]; omega⟩
        · cases h
    · obtain rfl : k = m := by omega
      gi_wp2
      go_end0
      exact ⟨⟨_, rfl⟩, .inl ⟨_, hpre.out, hJs⟩⟩

theorem pairs_stops (B0 n₀ ca cb : Nat) (A B : Option Addr) (a b : List Nat) (ha : a.length ≤ 9223372036854775807) (hb : b.length ≤ 9223372036854775807) (hba : Bd a) (hbb : Bd b) (w : World) (hB : B0 + 2 < w.heap.size) (hn₀ : n₀ ≤ w.heap.size)
    (h1 : w.cell? ⟨B0, 0, none⟩ = some (.slice A a.length ca)) (h2 : w.cell? ⟨B0 + 1, 0, none⟩ = some (.slice B b.length cb)) (h3 : w.cell? ⟨B0 + 2, 0, none⟩ = some (.func (.func 85) #[] #[]))
    (hra : Reads w n₀ 1 A a.length (us a)) (hrb : Reads w n₀ 1 B b.length (us b)) :
    SeqStopsK Fence.wide 8 Tryz.prog 86 #[.pointer (some ⟨B0, 0, none⟩), .pointer (some ⟨B0 + 1, 0, none⟩), .pointer (some ⟨B0 + 2, 0, none⟩)] (fun x : Pair2 => #[Value.int .u64 (x.1.1 : Nat), Value.int .u64 (x.1.2 : Nat)]) (KR n₀ B0 (B0 + 3))
      (fun ys => ys.map (·.1) = pairsTo a b (max a.length b.length)) (fun pre => ∃ k, k ≤ max a.length b.length ∧ pre.map (·.1) = pairsTo a b k) (max a.length b.length) w := fun lr J Jx W hW hJ _ hY h0 =>
  pairs1_in lr B0 n₀ ca cb A B a b ha hb hba hbb J Jx (fun pre W h => hJ _ W W.drew none h (grownBy_drew W) (fun r e => by cases e)) hY W
    ((hW.cell (p := ⟨B0, 0, none⟩) (by simp; omega)).trans h1) ((hW.cell (p := ⟨B0 + 1, 0, none⟩) (by simp; omega)).trans h2) ((hW.cell (p := ⟨B0 + 2, 0, none⟩) (by simp; omega)).trans h3) (hra.below (hW.mono hn₀)) (hrb.below (hW.mono hn₀)) h0
end Go.Proofs.YtooonjcpdbbniaaGreatDoor
