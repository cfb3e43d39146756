/- slices.Chunk over integers: what comes is the parts of the row, one behind the other. -/
import Derived.Test.YtochabikpaoalaaGreatKR
import Derived.Test.YtochabikpaoalaaGreatMul
import Derived.Test.YtochabikpaoalaaGreatStill
import Derived.Test.YtochabikpaoalaaGreatTensL
import Derived.Test.YtochabikpaoalaaGreatApp
import Derived.Sort.QuietIn
import Derived.Lib.MinMax
namespace Go.Proofs.YtochabikpaoalaaGreat
open Go.RowKit Go.Shelf
attribute [local go_sem] Oper.semAt_some
abbrev Prt (z : Nat) (l : List Int) := { i : Nat // i * z < l.length }
/-- the i-th part of a row, as a value -/
def partV (A : Option Addr) (z n i : Nat) : Value := .slice (A.map fun ad => ad.add (i * z)) (min z (n - i * z)) (min z (n - i * z))
theorem IsI.part {w : World} {A : Option Addr} {c z i : Nat} {l : List Int} (h : IsI w (.slice A l.length c) l) (hi : i * z < l.length) : IsI w (partV A z l.length i) (partZ z l i) := by
  obtain ⟨A', c', e, h1, h2, hr⟩ := h
  obtain ⟨rfl, _, rfl⟩ := Value.slice.inj e
  obtain ⟨ad, rfl, hb, hc⟩ := hr.2 (by omega)
  have hl := partZ_len z l i
  refine ⟨some (ad.add (i * z)), min z (l.length - i * z), by rw [hl]; rfl, by rw [hl]; exact Nat.le_refl _, by omega, by rw [is_len, Nat.mul_one], fun h0 => ⟨_, rfl, by rw [block_of_add]; exact hb, fun j u hu => ?_⟩⟩
  have hj : j < (partZ z l i).length := by
    rcases Nat.lt_or_ge j (partZ z l i).length with h' | h'
    · exact h'
    · rw [List.getElem?_eq_none (by rw [is_len]; exact h')] at hu; cases hu
  rw [is_at _ j hj] at hu
  obtain rfl := Option.some.inj hu
  rw [add_of_add]
  have hjz : j < z := by rw [hl] at hj; omega
  have hil : i * z + j < l.length := by rw [hl] at hj; omega
  have := hc (i * z + j) _ (is_at l (i * z + j) hil)
  rw [this]
  have e2 : iat (partZ z l i) j = iat l (i * z + j) := by unfold iat; rw [partZ_at z l i j hjz]
  rw [e2]
set_option maxHeartbeats 1000000 in
theorem chunk_in (n : Nat) (A : Option Addr) (m c z : Nat) (hz : 1 ≤ z) (w : World) :
    CallsIn Fence.wide n Tryz.prog 34 #[.slice A m c, .int .i64 z] w fun e w' => e = .returned (.func (.func 44) #[] #[.pointer (some ⟨w.heap.size, 0, none⟩), .pointer (some ⟨w.heap.size + 1, 0, none⟩)]) ∧
      w' = (w.alloc (.cells #[.slice A m c] 34)).alloc (.cells #[.int .i64 z] 3) := by
  refine callsIn_wide.2 ?_
  have hmf : ∀ (fn : Fn) (first cap : Array Value) (w : World), (Instr.makeFunc fn first cap).run Tryz.prog w = .ok (.func fn first cap) w := fun _ _ _ _ => rfl
  have h1 : (1 : Int) ≤ (z : Int) := by omega
  go_enter Tryz.func34, Tryz.ntmps34
  go_wp2
  go_ret
  exact ⟨rfl, rfl⟩
set_option maxRecDepth 100000 in
set_option maxHeartbeats 2000000 in
theorem chunk1_in (lr Bs n₀ c z : Nat) (hz : 1 ≤ z) (hz2 : z ≤ 4096) (A : Option Addr) (l : List Int) (hl : l.length ≤ 4096) (w0 : World) (hv : IsI w0 (.slice A l.length c) l) (J Jx : List (Prt z l) → World → Prop) (hJd : ∀ pre W n, J pre W → J pre (W.drewN n))
    (hY : ∀ pre x W, J pre W → pre.length < partN z l.length → YieldAt Fence.wide (8 - 1) Tryz.prog lr #[partV A z l.length x.1] W fun e W' =>
      (e = .returned (.bool true) ∧ J (pre ++ [x]) W' ∧ KR n₀ Bs (Bs + 2) W W') ∨ (e = .returned (.bool false) ∧ Jx (pre ++ [x]) W'))
    (W : World) (h1 : W.cell? ⟨Bs, 0, none⟩ = some (.slice A l.length c)) (h2 : W.cell? ⟨Bs + 1, 0, none⟩ = some (.int .i64 z)) (h0 : J [] W) :
    CallsIn Fence.wide 8 Tryz.prog 44 #[.func (.yield lr) #[] #[], .pointer (some ⟨Bs, 0, none⟩), .pointer (some ⟨Bs + 1, 0, none⟩)] W fun e W' => (∃ v, e = .returned v) ∧
      ((∃ ys : List (Prt z l), ys.map (·.1) = List.range (partN z l.length) ∧ J ys W') ∨ (∃ pre : List (Prt z l), (∃ k, k ≤ partN z l.length ∧ pre.map (·.1) = List.range k) ∧ Jx pre W')) := by
  obtain ⟨A', c', e, hc1, hc2, hr⟩ := hv
  obtain ⟨rfl, _, rfl⟩ := Value.slice.inj e
  obtain ⟨N, hN⟩ : ∃ N, N = partN z l.length := ⟨_, rfl⟩
  have hlt_iff : Hid (∀ i, i < N ↔ i * z < l.length) := Lib.hid fun i => by rw [hN]; exact partN_lt hz
  have hall : Hid (l.length ≤ N * z) := Lib.hid (by rw [hN]; exact partN_all hz)
  rw [← hN] at hY ⊢
  clear hN
  refine callsIn_of_wp Tryz.func44 rfl trivial ?_ rfl
  simp only [Tryz.ntmps44, List.size_toArray, List.length_cons, List.length_nil, Nat.reduceAdd, Nat.reduceSub, Array.replicate_succ, Array.replicate_zero, List.push_toArray, List.append_toArray, List.nil_append, List.cons_append]
  gi_wp2
  gi_loopw [4] (fun i wr => ∃ (k q : Nat) (pre : List (Prt z l)), k ≤ N ∧ Hid (q = k * z) ∧ q ≤ 8192 ∧ i = .int .i64 q ∧ Hid (pre.map (·.1) = List.range k) ∧ J pre wr ∧ KR n₀ Bs (Bs + 2) W wr)
    (fun i _ => 8192 - (intOf i).toNat)
  case atStart => exact ⟨0, 0, [], Nat.zero_le _, Lib.hid (by omega), by omega, by simp, Lib.hid rfl, h0, KR.refl _ _ _ _⟩
  case round =>
    obtain ⟨k, q, pre, hk, hq, hq2, rfl, hpre, hJs, hnx⟩ := hrel
    have g1 := (hnx.cell (by omega) (by omega)).trans h1
    have g2 := (hnx.cell (by omega) (by omega)).trans h2
    by_cases hlt : q < l.length
    · have hkN : k < N := (hlt_iff.out k).2 (by rw [← hq.out]; exact hlt)
      obtain ⟨ad, rfl, hb, hcx⟩ := hr.2 (by omega)
      obtain ⟨m, hm⟩ : ∃ m : Nat, m = min z (l.length - q) := ⟨_, rfl⟩
      have hmin : min (z : Int) ((l.length - q : Nat) : Int) = (m : Int) := by omega
      have j0 : (0 : Int) ≤ (q : Int) := by omega
      have j1 : (q : Int) ≤ (l.length : Int) := by omega
      have j2 : (l.length : Int) ≤ (c : Int) := by omega
      have j3 : (q : Int) < (l.length : Int) := by omega
      have j4 : (q : Int) + (m : Int) ≤ (l.length : Int) := by omega
      have j5 : (0 : Int) < (m : Int) := by omega
      have j8 : 0 < m := by omega
      have j9 : (q : Int) < (c : Int) := by omega
      have j10 : q < c := by omega
      have j11 : (q : Int) < (q : Int) + (m : Int) := by omega
      have j6 : (q : Int) + (m : Int) ≤ (c : Int) := by omega
      have j7 : (q : Int) ≤ (q : Int) + (m : Int) := by omega
      have HM := Lib.hid hm
      have HMIN := Lib.hid hmin
      clear hm hmin
      gi_wp2_with fail
      gi_quiet (fail)
      rw [HMIN.out]
      obtain ⟨fn, tmps, assign, body, hy, hR⟩ := hY pre ⟨k, by rw [← hq.out]; exact hlt⟩ (wr.drewN nq) (hJd _ _ _ hJs) (by have := congrArg List.length hpre.out; rw [List.length_map, List.length_range] at this; omega)
      dsimp only [partV, Option.map] at hy
      rw [← hq.out, ← HM.out] at hy
      have hnew : Hid ((pre ++ [(⟨k, by rw [← hq.out]; exact hlt⟩ : Prt z l)]).map (·.1) = List.range (k + 1)) := Lib.hid (by rw [List.map_append, hpre.out, List.range_succ]; rfl)
      generalize (⟨k, by rw [← hq.out]; exact hlt⟩ : Prt z l) = x at hR hnew
      gi_wp2_with fail
      have hq3 : Hid (q + z = (k + 1) * z) := Lib.hid (by rw [hq.out, Nat.succ_mul])
      refine hR.mono ?_
      rintro e W3 (⟨rfl, hJ3, hk3⟩ | ⟨rfl, hJx3⟩)
      · have hnx3 : KR n₀ Bs (Bs + 2) W W3 := KR.trans ⟨below_drewN hnx.low nq, hnx.mid⟩ hk3
        have g3 := (hnx3.cell (by omega) (by omega)).trans h2
        gi_wp2
        exact ⟨⟨k + 1, q + z, _, by omega, hq3, by omega, by go_num, hnew, hJ3, hnx3⟩, by simp [intOf]; omega⟩
      · gi_wp2
        refine bodyPost_ret (results_none rfl _ _ _) rfl ?_
        exact ⟨⟨_, rfl⟩, .inr ⟨_, ⟨k + 1, by omega, hnew.out⟩, hJx3⟩⟩
    · obtain rfl : k = N := by
        rcases Nat.lt_or_ge k N with h | h
        · have := (hlt_iff.out k).1 h; rw [← hq.out] at this; exact absurd this hlt
        · omega
      gi_wp2
      go_end0
      exact ⟨⟨_, rfl⟩, .inl ⟨_, hpre.out, hJs⟩⟩
theorem chunk_stops (Bs n₀ c z : Nat) (hz : 1 ≤ z) (hz2 : z ≤ 4096) (A : Option Addr) (l : List Int) (hl : l.length ≤ 4096) (w0 : World) (hv : IsI w0 (.slice A l.length c) l) (w : World) (hB : Bs + 1 < w.heap.size)
    (h1 : w.cell? ⟨Bs, 0, none⟩ = some (.slice A l.length c)) (h2 : w.cell? ⟨Bs + 1, 0, none⟩ = some (.int .i64 z)) :
    SeqStopsK Fence.wide 8 Tryz.prog 44 #[.pointer (some ⟨Bs, 0, none⟩), .pointer (some ⟨Bs + 1, 0, none⟩)] (fun x : Prt z l => #[partV A z l.length x.1]) (KR n₀ Bs (Bs + 2))
      (fun ys => ys.map (·.1) = List.range (partN z l.length)) (fun pre => ∃ k, k ≤ partN z l.length ∧ pre.map (·.1) = List.range k) (partN z l.length) w := fun lr J Jx W hW hJ _ hY h0 =>
  chunk1_in lr Bs n₀ c z hz hz2 A l hl w0 hv J Jx (fun pre W n h => hJ _ W (W.drewN n) none h ⟨rfl, rfl, rfl, Nat.le_refl _, fun _ _ _ => rfl⟩ (fun r e => by cases e)) hY W
    ((hW.cell (p := ⟨Bs, 0, none⟩) (by simp; omega)).trans h1) ((hW.cell (p := ⟨Bs + 1, 0, none⟩) (by simp; omega)).trans h2) h0
end Go.Proofs.YtochabikpaoalaaGreat
