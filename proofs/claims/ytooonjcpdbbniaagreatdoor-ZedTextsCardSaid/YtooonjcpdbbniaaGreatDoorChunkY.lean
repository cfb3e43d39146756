/- slices.Chunk over bytes: what comes is the parts of the row, one behind the other. Printed by gen_chunky.py. -/
import Derived.Test.YtooonjcpdbbniaaGreatDoorKR
import Derived.Test.YtooonjcpdbbniaaGreatDoorMul
import Derived.Test.YtooonjcpdbbniaaGreatDoorStill
import Derived.Test.YtooonjcpdbbniaaGreatDoorBytes
import Derived.Sort.QuietIn
import Derived.Lib.MinMax
namespace Go.Proofs.YtooonjcpdbbniaaGreatDoor
open Go.RowKit Go.Shelf
/-- the i-th part -/
def partY (z : Nat) (l : List Nat) (i : Nat) : List Nat := (l.drop (i * z)).take z
theorem partY_len (z : Nat) (l : List Nat) (i : Nat) : (partY z l i).length = min z (l.length - i * z) := by unfold partY; simp
/-- how many parts -/
def cutN (z n : Nat) : Nat := (n + z - 1) / z
theorem cutN_lt {z n i : Nat} (hz : 1 ≤ z) : i < cutN z n ↔ i * z < n := by
  unfold cutN
  rw [Nat.lt_div_iff_mul_lt (by omega)]
  constructor <;> intro h <;> omega
theorem cutN_le {z n : Nat} (hz : 1 ≤ z) : cutN z n ≤ n := by
  rcases Nat.lt_or_ge n (cutN z n) with h | h
  · have := (cutN_lt hz).1 h
    have h2 : n * 1 ≤ n * z := Nat.mul_le_mul_left n hz
    omega
  · exact h
theorem cutN_all {z n : Nat} (hz : 1 ≤ z) : n ≤ cutN z n * z := by
  rcases Nat.lt_or_ge (cutN z n * z) n with h | h
  · exact absurd ((cutN_lt hz).2 h) (Nat.lt_irrefl _)
  · exact h
theorem partY_at (z : Nat) (l : List Nat) (i j : Nat) (hj : j < z) : (partY z l i)[j]? = l[i * z + j]? := by
  unfold partY
  rw [List.getElem?_take, if_pos hj, List.getElem?_drop]

attribute [local go_sem] Oper.semAt_some
abbrev PrtY (z : Nat) (l : List Nat) := { i : Nat // i * z < l.length }
/-- the i-th part of a row, as a value -/
def partVY (A : Option Addr) (z n i : Nat) : Value := .slice (A.map fun ad => ad.add (i * z)) (min z (n - i * z)) (min z (n - i * z))
theorem IsY.part {w : World} {A : Option Addr} {c z i : Nat} {l : List Nat} (h : IsY w (.slice A l.length c) l) (hi : i * z < l.length) : IsY w (partVY A z l.length i) (partY z l i) := by
  obtain ⟨A', c', e, h1, h2, hby, hr⟩ := h
  obtain ⟨rfl, _, rfl⟩ := Value.slice.inj e
  obtain ⟨ad, rfl, hb, hc⟩ := hr.2 (by omega)
  have hl := partY_len z l i
  refine ⟨some (ad.add (i * z)), min z (l.length - i * z), by rw [hl]; rfl, by rw [hl]; exact Nat.le_refl _, by omega, fun x hx => hby x (List.mem_of_mem_drop (List.mem_of_mem_take hx)), by rw [ys_len, Nat.mul_one], fun h0 => ⟨_, rfl, by rw [block_of_add]; exact hb, fun j u hu => ?_⟩⟩
  have hj : j < (partY z l i).length := by
    rcases Nat.lt_or_ge j (partY z l i).length with h' | h'
    · exact h'
    · rw [List.getElem?_eq_none (by rw [ys_len]; exact h')] at hu; cases hu
  rw [ys_at _ j hj] at hu
  obtain rfl := Option.some.inj hu
  rw [add_of_add]
  have hjz : j < z := by rw [hl] at hj; omega
  have hil : i * z + j < l.length := by rw [hl] at hj; omega
  have := hc (i * z + j) _ (ys_at l (i * z + j) hil)
  rw [this]
  have e2 : yat (partY z l i) j = yat l (i * z + j) := by unfold yat; rw [partY_at z l i j hjz]
  rw [e2]
set_option maxHeartbeats 1000000 in
theorem chunkY_in (n : Nat) (A : Option Addr) (m c z : Nat) (hz : 1 ≤ z) (w : World) :
    CallsIn Fence.wide n Tryz.prog 44 #[.slice A m c, .int .i64 z] w fun e w' => e = .returned (.func (.func 65) #[] #[.pointer (some ⟨w.heap.size, 0, none⟩), .pointer (some ⟨w.heap.size + 1, 0, none⟩)]) ∧
      w' = (w.alloc (.cells #[.slice A m c] 57)).alloc (.cells #[.int .i64 z] 3) := by
  refine callsIn_wide.2 ?_
  have hmf : ∀ (fn : Fn) (first cap : Array Value) (w : World), (Instr.makeFunc fn first cap).run Tryz.prog w = .ok (.func fn first cap) w := fun _ _ _ _ => rfl
  have h1 : (1 : Int) ≤ (z : Int) := by omega
  go_enter Tryz.func44, Tryz.ntmps44
  go_wp2
  go_ret
  exact ⟨rfl, rfl⟩
set_option maxRecDepth 100000 in
set_option maxHeartbeats 2000000 in
theorem chunkY1_in (lr Bs n₀ c z : Nat) (hz : 1 ≤ z) (hz2 : z ≤ 4096) (A : Option Addr) (l : List Nat) (hl : l.length ≤ 4096) (w0 : World) (hv : IsY w0 (.slice A l.length c) l) (J Jx : List (PrtY z l) → World → Prop) (hJd : ∀ pre W n, J pre W → J pre (W.drewN n))
    (hY : ∀ pre x W, J pre W → pre.length < cutN z l.length → YieldAt Fence.wide (8 - 1) Tryz.prog lr #[partVY A z l.length x.1] W fun e W' =>
      (e = .returned (.bool true) ∧ J (pre ++ [x]) W' ∧ KR n₀ Bs (Bs + 2) W W') ∨ (e = .returned (.bool false) ∧ Jx (pre ++ [x]) W'))
    (W : World) (h1 : W.cell? ⟨Bs, 0, none⟩ = some (.slice A l.length c)) (h2 : W.cell? ⟨Bs + 1, 0, none⟩ = some (.int .i64 z)) (h0 : J [] W) :
    CallsIn Fence.wide 8 Tryz.prog 65 #[.func (.yield lr) #[] #[], .pointer (some ⟨Bs, 0, none⟩), .pointer (some ⟨Bs + 1, 0, none⟩)] W fun e W' => (∃ v, e = .returned v) ∧
      ((∃ ys : List (PrtY z l), ys.map (·.1) = List.range (cutN z l.length) ∧ J ys W') ∨ (∃ pre : List (PrtY z l), (∃ k, k ≤ cutN z l.length ∧ pre.map (·.1) = List.range k) ∧ Jx pre W')) := by
  obtain ⟨A', c', e, hc1, hc2, _, hr⟩ := hv
  obtain ⟨rfl, _, rfl⟩ := Value.slice.inj e
  obtain ⟨N, hN⟩ : ∃ N, N = cutN z l.length := ⟨_, rfl⟩
  have hlt_iff : Hid (∀ i, i < N ↔ i * z < l.length) := Lib.hid fun i => by rw [hN]; exact cutN_lt hz
  have hall : Hid (l.length ≤ N * z) := Lib.hid (by rw [hN]; exact cutN_all hz)
  rw [← hN] at hY ⊢
  clear hN
  refine callsIn_of_wp Tryz.func65 rfl trivial ?_ rfl
  simp only [Tryz.ntmps65, List.size_toArray, List.length_cons, List.length_nil, Nat.reduceAdd, Nat.reduceSub, Array.replicate_succ, Array.replicate_zero, List.push_toArray, List.append_toArray, List.nil_append, List.cons_append]
  gi_wp2
  gi_loopw [4] (fun i wr => ∃ (k q : Nat) (pre : List (PrtY z l)), k ≤ N ∧ Hid (q = k * z) ∧ q ≤ 8192 ∧ i = .int .i64 q ∧ Hid (pre.map (·.1) = List.range k) ∧ J pre wr ∧ KR n₀ Bs (Bs + 2) W wr)
    (fun i _ => 8192 - (intOf i).toNat)
  case atStart => exact ⟨0, 0, [], Nat.zero_le _, Lib.hid (by omega), by omega, by simp, Lib.hid rfl, h0, KR.refl _ _ _ _⟩
  case round =>
    obtain ⟨k, q, pre, hk, hq, hq2, rfl, hpre, hJs, hnx⟩ := hrel
    have g1 := (hnx.cell (by omega) (by omega)).trans h1
    have g2 := (hnx.cell (by omega) (by omega)).trans h2
    by_cases hlt : q < l.length
    · have hkN : k < N := (hlt_iff.out k).2 (by rw [← hq.out]; exact hlt)
      obtain ⟨ad, rfl, hb, hcx⟩ := hr.2 (by omega)
      obtain ⟨m, hm⟩ : ∃ m : Nat, m = min z (l.length - q) := ⟨_, rfl⟩
      have hmin : min (z : Int) ((l.length - q : Nat) : Int) = (m : Int) := by omega
      have j0 : (0 : Int) ≤ (q : Int) := by omega
      have j1 : (q : Int) ≤ (l.length : Int) := by omega
      have j2 : (l.length : Int) ≤ (c : Int) := by omega
      have j3 : (q : Int) < (l.length : Int) := by omega
      have j4 : (q : Int) + (m : Int) ≤ (l.length : Int) := by omega
      have j5 : (0 : Int) < (m : Int) := by omega
      have j8 : 0 < m := by omega
      have j9 : (q : Int) < (c : Int) := by omega
      have j10 : q < c := by omega
      have j11 : (q : Int) < (q : Int) + (m : Int) := by omega
      have j6 : (q : Int) + (m : Int) ≤ (c : Int) := by omega
      have j7 : (q : Int) ≤ (q : Int) + (m : Int) := by omega
      have HM := Lib.hid hm
      have HMIN := Lib.hid hmin
      clear hm hmin
      gi_wp2_with fail
      gi_quiet (fail)
      rw [HMIN.out]
      obtain ⟨fn, tmps, assign, body, hy, hR⟩ := hY pre ⟨k, by rw [← hq.out]; exact hlt⟩ (wr.drewN nq) (hJd _ _ _ hJs) (by have := congrArg List.length hpre.out; rw [List.length_map, List.length_range] at this; omega)
      dsimp only [partVY, Option.map] at hy
      rw [← hq.out, ← HM.out] at hy
      have hnew : Hid ((pre ++ [(⟨k, by rw [← hq.out]; exact hlt⟩ : PrtY z l)]).map (·.1) = List.range (k + 1)) := Lib.hid (by rw [List.map_append, hpre.out, List.range_succ]; rfl)
      generalize (⟨k, by rw [← hq.out]; exact hlt⟩ : PrtY z l) = x at hR hnew
      gi_wp2_with fail
      have hq3 : Hid (q + z = (k + 1) * z) := Lib.hid (by rw [hq.out, Nat.succ_mul])
      refine hR.mono ?_
      rintro e W3 (⟨rfl, hJ3, hk3⟩ | ⟨rfl, hJx3⟩)
      · have hnx3 : KR n₀ Bs (Bs + 2) W W3 := KR.trans ⟨below_drewN hnx.low nq, hnx.mid⟩ hk3
        have g3 := (hnx3.cell (by omega) (by omega)).trans h2
        gi_wp2
        exact ⟨⟨k + 1, q + z, _, by omega, hq3, by omega, by go_num, hnew, hJ3, hnx3⟩, by simp [intOf]; omega⟩
      · gi_wp2
        refine bodyPost_ret (results_none rfl _ _ _) rfl ?_
        exact ⟨⟨_, rfl⟩, .inr ⟨_, ⟨k + 1, by omega, hnew.out⟩, hJx3⟩⟩
    · obtain rfl : k = N := by
        rcases Nat.lt_or_ge k N with h | h
        · have := (hlt_iff.out k).1 h; rw [← hq.out] at this; exact absurd this hlt
        · omega
      gi_wp2
      go_end0
      exact ⟨⟨_, rfl⟩, .inl ⟨_, hpre.out, hJs⟩⟩
theorem chunkY_stops (Bs n₀ c z : Nat) (hz : 1 ≤ z) (hz2 : z ≤ 4096) (A : Option Addr) (l : List Nat) (hl : l.length ≤ 4096) (w0 : World) (hv : IsY w0 (.slice A l.length c) l) (w : World) (hB : Bs + 1 < w.heap.size)
    (h1 : w.cell? ⟨Bs, 0, none⟩ = some (.slice A l.length c)) (h2 : w.cell? ⟨Bs + 1, 0, none⟩ = some (.int .i64 z)) :
    SeqStopsK Fence.wide 8 Tryz.prog 65 #[.pointer (some ⟨Bs, 0, none⟩), .pointer (some ⟨Bs + 1, 0, none⟩)] (fun x : PrtY z l => #[partVY A z l.length x.1]) (KR n₀ Bs (Bs + 2))
      (fun ys => ys.map (·.1) = List.range (cutN z l.length)) (fun pre => ∃ k, k ≤ cutN z l.length ∧ pre.map (·.1) = List.range k) (cutN z l.length) w := fun lr J Jx W hW hJ _ hY h0 =>
  chunkY1_in lr Bs n₀ c z hz hz2 A l hl w0 hv J Jx (fun pre W n h => hJ _ W (W.drewN n) none h ⟨rfl, rfl, rfl, Nat.le_refl _, fun _ _ _ => rfl⟩ (fun r e => by cases e)) hY W
    ((hW.cell (p := ⟨Bs, 0, none⟩) (by simp; omega)).trans h1) ((hW.cell (p := ⟨Bs + 1, 0, none⟩) (by simp; omega)).trans h2) h0
end Go.Proofs.YtooonjcpdbbniaaGreatDoor
