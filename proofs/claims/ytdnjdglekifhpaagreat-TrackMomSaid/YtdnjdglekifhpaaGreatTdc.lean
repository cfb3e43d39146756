/- A part of the proof of: MOMENTUM: against the real velocities of the same gradients, from noughts on, kept velocities are never farther away than their bounds, step by step. No conditions: every input. -/
import Derived.BigQuiet
import Derived.Deep.RegionHeld3
import Derived.Deep.DrawnRows
import Derived.Sort.QuietIn
import Derived.Lib.MinMax
import Derived.Maps.OwnIn
import Derived.Outline
import Derived.Deep.DeepMust
import Derived.Laws.Rows
import Derived.RegionTactic
import Derived.Deep.DeepCutAuto
import Derived.Laws.MakeOwn
import Derived.Lib.SmallJoins
import Derived.Deep.RegionLaw
import Derived.Test.YtdnjdglekifhpaaGreatTdb
namespace Go.Proofs.YtdnjdglekifhpaaGreat
theorem partZ_flat (z : Nat) (l : List Int) : ∀ N, (List.range N).flatMap (partZ z l) = l.take (N * z)
 | 0 => by simp
 | N + 1 => by
   rw [List.range_succ, List.flatMap_append, partZ_flat z l N, List.flatMap_cons, List.flatMap_nil, List.append_nil, Nat.succ_mul, List.take_add]
   rfl
theorem partN_all {z n : Nat} (hz : 1 ≤ z) : n ≤ partN z n * z := by
 rcases Nat.lt_or_ge (partN z n * z) n with h | h
 · exact absurd ((partN_lt hz).2 h) (Nat.lt_irrefl _)
 · exact h
theorem partZ_at (z : Nat) (l : List Int) (i j : Nat) (hj : j < z) : (partZ z l i)[j]? = l[i * z + j]? := by
 unfold partZ
 rw [List.getElem?_take, if_pos hj, List.getElem?_drop]
theorem mayB_iff {k z m o : Int} : mayB k z m o = true ↔ (0 ≤ k ∧ k ≤ 3 ∧ 1 ≤ z ∧ z ≤ 4096 ∧ 0 ≤ m ∧ 0 ≤ o) := by unfold mayB; exact decide_eq_true_iff
section
variable {k z m o : Int} {l : List Int}
theorem ofE_zero (h : ofE k z m o l = 0) : mayB k z m o = true ∧ l.length ≤ 4096 ∧ oddTo k z m o l (partN z.toNat l.length) = false := by
 unfold ofE at h
 by_cases h1 : mayB k z m o = true
 · rw [if_pos h1] at h
   by_cases h2 : l.length ≤ 4096
   · rw [if_pos h2] at h
     cases h3 : oddTo k z m o l (partN z.toNat l.length)
     · exact ⟨h1, h2, rfl⟩
     · rw [h3, if_pos rfl] at h; omega
   · rw [if_neg h2] at h; omega
 · rw [if_neg h1] at h; omega
theorem ofE_cases (h4 : l.length ≤ 4096) : ofE k z m o l = 0 ∨ ofE k z m o l = 1 := by
 unfold ofE
 rw [if_pos h4]
 split
 · split
   · exact .inr rfl
   · exact .inl rfl
 · exact .inr rfl
theorem ofE_ok (h1 : mayB k z m o = true) (h2 : l.length ≤ 4096) (h3 : oddTo k z m o l (partN z.toNat l.length) = false) : ofE k z m o l = 0 := by
 unfold ofE; rw [if_pos h1, if_pos h2, h3]; rfl
theorem odd_part (h : oddTo k z m o l (partN z.toNat l.length) = false) {i : Nat} (hi : i < partN z.toNat l.length) : oddP (kindOf k m o l.length (partZ z.toNat l i)) (partZ z.toNat l i) = false := by
 unfold oddTo at h
 rw [List.any_eq_false] at h
 have := h i (List.mem_range.2 hi)
 simpa using this
theorem oddP_min {kk : Int} {p : List Int} (h : oddP kk p = false) : ∀ x ∈ p, x ≠ -9223372036854775808 := by
 intro x hx e
 unfold oddP at h
 rw [List.any_eq_false] at h
 have := h x hx
 rw [e] at this
 simp [oddB] at this
theorem kindOf_or (n : Nat) (p : List Int) : (kindOf k m o n p = 4 ∧ staysB m o n (greatW p) = true) ∨ (kindOf k m o n p = k ∧ staysB m o n (greatW p) = false) := by
 unfold kindOf
 cases staysB m o n (greatW p)
 · exact .inr ⟨if_neg (by decide), rfl⟩
 · exact .inl ⟨if_pos rfl, rfl⟩
theorem toNat_kind (h : mayB k z m o = true) : ∃ n : Nat, k = n ∧ n < 4 := by
 obtain ⟨h0, h1, _⟩ := mayB_iff.1 h
 exact ⟨k.toNat, by omega, by omega⟩
theorem bk_good (h : mayB k z m o = true) {n : Nat} {p : List Int} (hi : ∀ x ∈ p, I64 x) (hl : p.length ≤ 4096) (ho : oddP (kindOf k m o n p) p = false) :
   bkR (bkOf (kindOf k m o n p) p) = true ∧ bkLen (bkOf (kindOf k m o n p) p) = p.length ∧
   ((bkOf (kindOf k m o n p) p).1 = if staysB m o n (if (bkOf (kindOf k m o n p) p).1 = 4 then greatW (bkOf (kindOf k m o n p) p).2.2.2 else (bkOf (kindOf k m o n p) p).2.1) = true then 4 else k) ∧
   (bkNums (bkOf (kindOf k m o n p) p)).length = p.length ∧ great (bkNums (bkOf (kindOf k m o n p) p)) ≤ great p := by
 obtain ⟨K, rfl, hK⟩ := toNat_kind h
 have hm := oddP_min ho
 rcases kindOf_or (k := (K : Int)) (m := m) (o := o) n p with ⟨e, e2⟩ | ⟨e, e2⟩
 · rw [e] at ho ⊢
   have hb : bkOf 4 p = (4, 0, [], p) := if_pos rfl
   rw [hb]
   have ho' : p.any (oddB true) = false := ho
   refine ⟨wide_right hl ho', by simp [bkLen], ?_, ?_, ?_⟩
   · rw [if_pos rfl, e2, if_pos rfl]
   · simp [bkNums]
   · simp [bkNums]
 · rw [e] at ho ⊢
   have h4 : (K : Int) ≠ 4 := by omega
   have hb : bkOf K p = ((K : Int), great p, packC K p, []) := if_neg h4
   have ho' : p.any (oddB (sgn (K : Nat))) = false := by
     have e4 : ((K : Int) == 4) = false := by rw [beq_eq_false_iff_ne]; exact h4
     unfold oddP at ho
     rw [e4, Bool.false_or] at ho
     exact ho
   rw [hb]
   refine ⟨packed_right hK hl ho', by simp [bkLen, packC_len], ?_, ?_, ?_⟩
   · simp only
     rw [if_neg h4, ← greatW_eq hi hm, e2]; rfl
   · simp only [bkNums]
     rw [if_neg h4]; simp [loadC, packC_len]
   · simp only [bkNums]
     rw [if_neg h4]
     exact (load_great hK ho').1
theorem size_of (h : mayB k z m o = true) : ∃ Z : Nat, z = Z ∧ 1 ≤ Z ∧ Z ≤ 4096 := by
 obtain ⟨_, _, h1, h2, _⟩ := mayB_iff.1 h
 exact ⟨z.toNat, by omega, by omega, by omega⟩
theorem load_of (_h : ofE k z m o l = 0) : loadS (bksTo k z m o l (partN z.toNat l.length)) = (List.range (partN z.toNat l.length)).flatMap fun i => bkNums (bkOf (kindOf k m o l.length (partZ z.toNat l i)) (partZ z.toNat l i)) := by
 unfold loadS bksTo; rw [List.flatMap_map]
theorem load_parts (hi : ∀ x ∈ l, I64 x) (h : ofE k z m o l = 0) {i : Nat} (hi' : i < partN z.toNat l.length) :
   (bkNums (bkOf (kindOf k m o l.length (partZ z.toNat l i)) (partZ z.toNat l i))).length = (partZ z.toNat l i).length ∧ great (bkNums (bkOf (kindOf k m o l.length (partZ z.toNat l i)) (partZ z.toNat l i))) ≤ great (partZ z.toNat l i) := by
 obtain ⟨h1, h2, h3⟩ := ofE_zero h
 obtain ⟨Z, rfl, z1, z2⟩ := size_of h1
 have ho := odd_part h3 hi'
 rw [Int.toNat_natCast] at *
 have hpl := partZ_len Z l i
 obtain ⟨_, _, _, g4, g5⟩ := bk_good h1 (n := l.length) (p := partZ Z l i) (fun x hx => hi x (partZ_mem hx)) (by omega) ho
 exact ⟨g4, g5⟩
theorem load_great_of (hi : ∀ x ∈ l, I64 x) (h : ofE k z m o l = 0) : great (loadS (ofS k z m o l).2.2.2.2.2) ≤ great l := by
 unfold ofS
 rw [if_pos h]
 simp only
 rw [load_of h]
 refine great_le (great_nonneg l) fun x hx => ?_
 obtain ⟨i, hi', hx⟩ := List.mem_flatMap.1 hx
 have h1 := great_mem hx
 have h2 := (load_parts hi h (List.mem_range.1 hi')).2
 have h3 : great (partZ z.toNat l i) ≤ great l := great_sub fun y hy => partZ_mem hy
 omega
theorem of_min (h : ofE k z m o l = 0) : ∀ x ∈ l, x ≠ -9223372036854775808 := by
 obtain ⟨h1, h2, h3⟩ := ofE_zero h
 obtain ⟨Z, rfl, z1, z2⟩ := size_of h1
 intro x hx
 have e : (List.range (partN Z l.length)).flatMap (partZ Z l) = l := by
   rw [partZ_flat, List.take_of_length_le]
   exact partN_all z1
 rw [← e] at hx
 obtain ⟨i, hi', hx⟩ := List.mem_flatMap.1 hx
 have ho := odd_part h3 (by rw [Int.toNat_natCast]; exact List.mem_range.1 hi')
 rw [Int.toNat_natCast] at ho
 exact oddP_min ho x hx
end
end Go.Proofs.YtdnjdglekifhpaaGreat
namespace Go.Proofs.YtdnjdglekifhpaaGreat
open Go.RowKit
attribute [local go_sem ↓] Go.wp_at_zero Go.wp_at_succ
def LongB (bs : List Bk) : Prop := ∀ b ∈ bs, b.2.2.1.length ≤ 140737488351232 ∧ b.2.2.2.length ≤ 17592186044416
end Go.Proofs.YtdnjdglekifhpaaGreat
namespace Go.Proofs.YtdnjdglekifhpaaGreat
open Go.RowKit Go.Shelf
attribute [local go_sem] Oper.semAt_some
abbrev Prt (z : Nat) (l : List Int) := { i : Nat // i * z < l.length }
def partV (A : Option Addr) (z n i : Nat) : Value := .slice (A.map fun ad => ad.add (i * z)) (min z (n - i * z)) (min z (n - i * z))
theorem IsI.part {w : World} {A : Option Addr} {c z i : Nat} {l : List Int} (h : IsI w (.slice A l.length c) l) (hi : i * z < l.length) : IsI w (partV A z l.length i) (partZ z l i) := by
 obtain ⟨A', c', e, h1, h2, hr⟩ := h
 obtain ⟨rfl, _, rfl⟩ := Value.slice.inj e
 obtain ⟨ad, rfl, hb, hc⟩ := hr.2 (by omega)
 have hl := partZ_len z l i
 refine ⟨some (ad.add (i * z)), min z (l.length - i * z), by rw [hl]; rfl, by rw [hl]; exact Nat.le_refl _, by omega, by rw [is_len, Nat.mul_one], fun h0 => ⟨_, rfl, by rw [block_of_add]; exact hb, fun j u hu => ?_⟩⟩
 have hj : j < (partZ z l i).length := by
   rcases Nat.lt_or_ge j (partZ z l i).length with h' | h'
   · exact h'
   · rw [List.getElem?_eq_none (by rw [is_len]; exact h')] at hu; cases hu
 rw [is_at _ j hj] at hu
 obtain rfl := Option.some.inj hu
 rw [add_of_add]
 have hjz : j < z := by rw [hl] at hj; omega
 have hil : i * z + j < l.length := by rw [hl] at hj; omega
 have := hc (i * z + j) _ (is_at l (i * z + j) hil)
 rw [this]
 have e2 : iat (partZ z l i) j = iat l (i * z + j) := by unfold iat; rw [partZ_at z l i j hjz]
 rw [e2]
set_option maxHeartbeats 1000000 in
theorem chunk_in (n : Nat) (A : Option Addr) (m c z : Nat) (hz : 1 ≤ z) (w : World) :
   CallsIn Fence.wide n Tryz.prog 98 #[.slice A m c, .int .i64 z] w fun e w' => e = .returned (.func (.func 158) #[] #[.pointer (some ⟨w.heap.size, 0, none⟩), .pointer (some ⟨w.heap.size + 1, 0, none⟩)]) ∧
     w' = (w.alloc (.cells #[.slice A m c] 62)).alloc (.cells #[.int .i64 z] 3) := by
 refine callsIn_wide.2 ?_
 have hmf : ∀ (fn : Fn) (first cap : Array Value) (w : World), (Instr.makeFunc fn first cap).run Tryz.prog w = .ok (.func fn first cap) w := fun _ _ _ _ => rfl
 have h1 : (1 : Int) ≤ (z : Int) := by omega
 go_enter Tryz.func98, Tryz.ntmps98
 go_wp2
 go_ret
 exact ⟨rfl, rfl⟩
set_option maxRecDepth 100000 in
set_option maxHeartbeats 2000000 in
theorem chunk1_in (lr Bs n₀ c z : Nat) (hz : 1 ≤ z) (hz2 : z ≤ 4096) (A : Option Addr) (l : List Int) (hl : l.length ≤ 4096) (w0 : World) (hv : IsI w0 (.slice A l.length c) l) (J Jx : List (Prt z l) → World → Prop) (hJd : ∀ pre W n, J pre W → J pre (W.drewN n))
   (hY : ∀ pre x W, J pre W → pre.length < partN z l.length → YieldAt Fence.wide (8 - 1) Tryz.prog lr #[partV A z l.length x.1] W fun e W' =>
     (e = .returned (.bool true) ∧ J (pre ++ [x]) W' ∧ KR n₀ Bs (Bs + 2) W W') ∨ (e = .returned (.bool false) ∧ Jx (pre ++ [x]) W'))
   (W : World) (h1 : W.cell? ⟨Bs, 0, none⟩ = some (.slice A l.length c)) (h2 : W.cell? ⟨Bs + 1, 0, none⟩ = some (.int .i64 z)) (h0 : J [] W) :
   CallsIn Fence.wide 8 Tryz.prog 158 #[.func (.yield lr) #[] #[], .pointer (some ⟨Bs, 0, none⟩), .pointer (some ⟨Bs + 1, 0, none⟩)] W fun e W' => (∃ v, e = .returned v) ∧
     ((∃ ys : List (Prt z l), ys.map (·.1) = List.range (partN z l.length) ∧ J ys W') ∨ (∃ pre : List (Prt z l), (∃ k, k ≤ partN z l.length ∧ pre.map (·.1) = List.range k) ∧ Jx pre W')) := by
 obtain ⟨A', c', e, hc1, hc2, hr⟩ := hv
 obtain ⟨rfl, _, rfl⟩ := Value.slice.inj e
 obtain ⟨N, hN⟩ : ∃ N, N = partN z l.length := ⟨_, rfl⟩
 have hlt_iff : Hid (∀ i, i < N ↔ i * z < l.length) := Lib.hid fun i => by rw [hN]; exact partN_lt hz
 have hall : Hid (l.length ≤ N * z) := Lib.hid (by rw [hN]; exact partN_all hz)
 rw [← hN] at hY ⊢
 clear hN
 refine callsIn_of_wp Tryz.func158 rfl trivial ?_ rfl
 simp only [Tryz.ntmps158, List.size_toArray, List.length_cons, List.length_nil, Nat.reduceAdd, Nat.reduceSub, Array.replicate_succ, Array.replicate_zero, List.push_toArray, List.append_toArray, List.nil_append, List.cons_append]
 gi_wp2
 gi_loopw [4] (fun i wr => ∃ (k q : Nat) (pre : List (Prt z l)), k ≤ N ∧ Hid (q = k * z) ∧ q ≤ 8192 ∧ i = .int .i64 q ∧ Hid (pre.map (·.1) = List.range k) ∧ J pre wr ∧ KR n₀ Bs (Bs + 2) W wr)
   (fun i _ => 8192 - (intOf i).toNat)
 case atStart => exact ⟨0, 0, [], Nat.zero_le _, Lib.hid (by omega), by omega, by simp, Lib.hid rfl, h0, KR.refl _ _ _ _⟩
 case round =>
   obtain ⟨k, q, pre, hk, hq, hq2, rfl, hpre, hJs, hnx⟩ := hrel
   have g1 := (hnx.cell (by omega) (by omega)).trans h1
   have g2 := (hnx.cell (by omega) (by omega)).trans h2
   by_cases hlt : q < l.length
   · have hkN : k < N := (hlt_iff.out k).2 (by rw [← hq.out]; exact hlt)
     obtain ⟨ad, rfl, hb, hcx⟩ := hr.2 (by omega)
     obtain ⟨m, hm⟩ : ∃ m : Nat, m = min z (l.length - q) := ⟨_, rfl⟩
     have hmin : min (z : Int) ((l.length - q : Nat) : Int) = (m : Int) := by omega
     have j0 : (0 : Int) ≤ (q : Int) := by omega
     have j1 : (q : Int) ≤ (l.length : Int) := by omega
     have j2 : (l.length : Int) ≤ (c : Int) := by omega
     have j3 : (q : Int) < (l.length : Int) := by omega
     have j4 : (q : Int) + (m : Int) ≤ (l.length : Int) := by omega
     have j5 : (0 : Int) < (m : Int) := by omega
     have j8 : 0 < m := by omega
     have j9 : (q : Int) < (c : Int) := by omega
     have j10 : q < c := by omega
     have j11 : (q : Int) < (q : Int) + (m : Int) := by omega
     have j6 : (q : Int) + (m : Int) ≤ (c : Int) := by omega
     have j7 : (q : Int) ≤ (q : Int) + (m : Int) := by omega
     have HM := Lib.hid hm
     have HMIN := Lib.hid hmin
     clear hm hmin
     gi_wp2_with fail
     gi_quiet (fail)
     rw [HMIN.out]
     obtain ⟨fn, tmps, assign, body, hy, hR⟩ := hY pre ⟨k, by rw [← hq.out]; exact hlt⟩ (wr.drewN nq) (hJd _ _ _ hJs) (by have := congrArg List.length hpre.out; rw [List.length_map, List.length_range] at this; omega)
     dsimp only [partV, Option.map] at hy
     rw [← hq.out, ← HM.out] at hy
     have hnew : Hid ((pre ++ [(⟨k, by rw [← hq.out]; exact hlt⟩ : Prt z l)]).map (·.1) = List.range (k + 1)) := Lib.hid (by rw [List.map_append, hpre.out, List.range_succ]; rfl)
     generalize (⟨k, by rw [← hq.out]; exact hlt⟩ : Prt z l) = x at hR hnew
     gi_wp2_with fail
     have hq3 : Hid (q + z = (k + 1) * z) := Lib.hid (by rw [hq.out, Nat.succ_mul])
     refine hR.mono ?_
     rintro e W3 (⟨rfl, hJ3, hk3⟩ | ⟨rfl, hJx3⟩)
     · have hnx3 : KR n₀ Bs (Bs + 2) W W3 := KR.trans ⟨below_drewN hnx.low nq, hnx.mid⟩ hk3
       have g3 := (hnx3.cell (by omega) (by omega)).trans h2
       gi_wp2
       exact ⟨⟨k + 1, q + z, _, by omega, hq3, by omega, by go_num, hnew, hJ3, hnx3⟩, by simp [intOf]; omega⟩
     · gi_wp2
       refine bodyPost_ret (results_none rfl _ _ _) rfl ?_
       exact ⟨⟨_, rfl⟩, .inr ⟨_, ⟨k + 1, by omega, hnew.out⟩, hJx3⟩⟩
   · obtain rfl : k = N := by
       rcases Nat.lt_or_ge k N with h | h
       · have := (hlt_iff.out k).1 h; rw [← hq.out] at this; exact absurd this hlt
       · omega
     gi_wp2
     go_end0
     exact ⟨⟨_, rfl⟩, .inl ⟨_, hpre.out, hJs⟩⟩
theorem chunk_stops (Bs n₀ c z : Nat) (hz : 1 ≤ z) (hz2 : z ≤ 4096) (A : Option Addr) (l : List Int) (hl : l.length ≤ 4096) (w0 : World) (hv : IsI w0 (.slice A l.length c) l) (w : World) (hB : Bs + 1 < w.heap.size)
   (h1 : w.cell? ⟨Bs, 0, none⟩ = some (.slice A l.length c)) (h2 : w.cell? ⟨Bs + 1, 0, none⟩ = some (.int .i64 z)) :
   SeqStopsK Fence.wide 8 Tryz.prog 158 #[.pointer (some ⟨Bs, 0, none⟩), .pointer (some ⟨Bs + 1, 0, none⟩)] (fun x : Prt z l => #[partV A z l.length x.1]) (KR n₀ Bs (Bs + 2))
     (fun ys => ys.map (·.1) = List.range (partN z l.length)) (fun pre => ∃ k, k ≤ partN z l.length ∧ pre.map (·.1) = List.range k) (partN z l.length) w := fun lr J Jx W hW hJ _ hY h0 =>
 chunk1_in lr Bs n₀ c z hz hz2 A l hl w0 hv J Jx (fun pre W n h => hJ _ W (W.drewN n) none h ⟨rfl, rfl, rfl, Nat.le_refl _, fun _ _ _ => rfl⟩ (fun r e => by cases e)) hY W
   ((hW.cell (p := ⟨Bs, 0, none⟩) (by simp; omega)).trans h1) ((hW.cell (p := ⟨Bs + 1, 0, none⟩) (by simp; omega)).trans h2) h0
end Go.Proofs.YtdnjdglekifhpaaGreat
namespace Go.Proofs.YtdnjdglekifhpaaGreat
open Go.RowKit Go.Shelf
attribute [local go_sem] Oper.semAt_some
theorem odd_four (p : List Int) : oddP 4 p = p.any (oddB true) := rfl
theorem odd_kind {kk : Int} (h : kk ≠ 4) (p : List Int) : oddP kk p = p.any (oddB (sgn kk)) := by
 have e4 : (kk == 4) = false := by rw [beq_eq_false_iff_ne]; exact h
 unfold oddP; rw [e4, Bool.false_or]
theorem pack_bad (kk : Int) (v : Value) (p : List Int) (w : World) (h : IsI w v p) (hk : 0 ≤ kk ∧ kk ≤ 4) (ho : oddP kk p = true) :
   Calls Tryz.prog 101 #[.int .i64 kk, v] w fun e w' => ∃ b, e = .returned (.tuple #[b, .int .i64 1]) ∧ IsBk w' b 0 0 [] [] ∧ Below w.heap.size w w' := by
 by_cases k4 : kk = 4
 · exact pack_oddw kk v p w h k4 (by rw [k4, odd_four] at ho; exact ho)
 · exact pack_odd kk v p w h (by omega) (by rw [odd_kind k4] at ho; exact ho)
theorem pack_good (kk : Int) (v : Value) (p : List Int) (w : World) (h : IsI w v p) (hk : 0 ≤ kk ∧ kk ≤ 4) (hl : p.length ≤ 4096) (hi : ∀ x ∈ p, I64 x) (ho : oddP kk p = false) :
   Calls Tryz.prog 101 #[.int .i64 kk, v] w fun e w' => ∃ b, e = .returned (.tuple #[b, .int .i64 0]) ∧ IsBk w' b (bkOf kk p).1 (bkOf kk p).2.1 (bkOf kk p).2.2.1 (bkOf kk p).2.2.2 ∧ Below w.heap.size w w' ∧ FreshB w.heap.size b := by
 unfold bkOf
 by_cases k4 : kk = 4
 · rw [if_pos k4]
   exact pack_wideF kk v p w h k4 hl (by rw [k4, odd_four] at ho; exact ho)
 · rw [if_neg k4]
   obtain ⟨n, rfl⟩ := Int.eq_ofNat_of_zero_le hk.1
   exact pack_codedF n v p w h n (by omega) rfl hl hi (by rw [odd_kind k4] at ho; exact ho)
theorem box4t (w : World) (t1 t2 t3 t4 : TypeId) (c1 c2 c3 c4 : Array Value) : ∃ W, W = (((w.alloc (.cells c1 t1)).alloc (.cells c2 t2)).alloc (.cells c3 t3)).alloc (.cells c4 t4) ∧ Blk W w.heap.size t1 c1 ∧ Blk W (w.heap.size + 1) t2 c2 ∧ Blk W (w.heap.size + 1 + 1) t3 c3 ∧ Blk W (w.heap.size + 1 + 1 + 1) t4 c4 ∧ Below w.heap.size w W := by
 have h2 := Blk.new (w.alloc (.cells c1 t1)) t2 c2
 have h3 := Blk.new ((w.alloc (.cells c1 t1)).alloc (.cells c2 t2)) t3 c3
 have h4 := Blk.new (((w.alloc (.cells c1 t1)).alloc (.cells c2 t2)).alloc (.cells c3 t3)) t4 c4
 simp only [World.size_alloc] at h2 h3 h4
 exact ⟨_, rfl, (((Blk.new w t1 c1).alloc _).alloc _).alloc _, (h2.alloc _).alloc _, h3.alloc _, h4, ((((Below.refl _ w).alloc (Nat.le_refl _) _).alloc (by simp) _).alloc (by simp; omega) _).alloc (by simp; omega) _⟩
theorem IsSt.zero (w : World) : IsSt w (.agg #[.int .i64 0, .int .i64 0, .int .i64 0, .int .i64 0, .int .i64 0, .slice none 0 0]) (0, 0, 0, 0, 0, []) := ⟨_, rfl, IsBs.nil w⟩
def bkP (k m o : Int) (Z : Nat) (l : List Int) (i : Nat) : Bk := bkOf (kindOf k m o l.length (partZ Z l i)) (partZ Z l i)
def oddPi (k m o : Int) (Z : Nat) (l : List Int) (i : Nat) : Bool := oddP (kindOf k m o l.length (partZ Z l i)) (partZ Z l i)
def OfI (k m o : Int) (Z : Nat) (A : Option Addr) (c : Nat) (l : List Int) (g X b : Nat) (ps : List Nat) (W : World) : Prop :=
 (∃ v, Blk W X 26 #[.int .i64 k, .int .i64 Z, .int .i64 m, .int .i64 o, .int .i64 l.length, v] ∧ OwnBs W b b v (ps.map (bkP k m o Z l))) ∧ (∀ i ∈ ps, oddPi k m o Z l i = false) ∧
 Blk W g 23 #[.int .i64 k, .int .i64 Z, .int .i64 m, .int .i64 o] ∧ Blk W (g + 1) 62 #[.slice A l.length c] ∧
 Blk W (g + 1 + 1) 26 #[.int .i64 0, .int .i64 0, .int .i64 0, .int .i64 0, .int .i64 0, .slice none 0 0] ∧ Blk W (g + 1 + 1 + 1) 42 #[.int .i64 0]
def OfX (k m o : Int) (Z : Nat) (l : List Int) (g : Nat) (ps : List Nat) (W : World) : Prop :=
 (∃ i ∈ ps, oddPi k m o Z l i = true) ∧ Blk W (g + 1 + 1) 26 #[.int .i64 0, .int .i64 0, .int .i64 0, .int .i64 0, .int .i64 0, .slice none 0 0] ∧ Blk W (g + 1 + 1 + 1) 42 #[.int .i64 1]
section
variable {X Y : World} {row : Option Nat}
theorem blk_own {g : Nat} {t : TypeId} {cs : Array Value} (h : Blk X g t cs) (hg : X.grownBy Y row) (hr : ∀ r, row = some r → ∃ o : Obj, X.heap[r]? = some o ∧ o.isCells = false) : Blk Y g t cs :=
 h.grown hg fun e => by
   obtain ⟨o, ho, hc⟩ := hr g e.symm
   unfold Blk at h; rw [h] at ho; cases ho; cases hc
theorem away_own {v : Value} {A : Option Addr} {n c m : Nat} {xs : List Value} (_ : v = .slice A n c) (h : Reads X X.heap.size 1 A m xs) (hm : 0 < m) (hxs : xs.length = m) (hr : ∀ r, row = some r → ∃ o : Obj, X.heap[r]? = some o ∧ o.isCells = false) : ∀ g, row = some g → v.ownBlock ≠ some g := by
 intro g e e2
 subst v
 obtain ⟨ad, rfl, hb, hc⟩ := h.2 hm
 have e3 : ad.block = g := by simpa [Value.ownBlock] using e2
 obtain ⟨o, ho, hcl⟩ := hr g e
 have := hc 0 xs[0] (List.getElem?_eq_getElem (by omega))
 have hbk : (ad.add 0).block = g := by rw [block_of_add]; exact e3
 unfold World.cell? at this
 rw [hbk, ho] at this
 cases o <;> simp_all [Obj.isCells]
theorem IsI.ownr {v : Value} {l : List Int} (h : IsI X v l) (hg : X.grownBy Y row) (hr : ∀ r, row = some r → ∃ o : Obj, X.heap[r]? = some o ∧ o.isCells = false) : IsI Y v l :=
 h.grownF hg fun g e => by
   obtain ⟨A, c, e1, h1, h2, h4⟩ := h
   rcases List.eq_nil_or_concat l with rfl | ⟨_, _, rfl⟩
   · exact .inl rfl
   · exact .inr (away_own e1 h4 (by simp) (by rw [is_len]) hr g e)
theorem IsY.ownr {v : Value} {l : List Nat} (h : IsY X v l) (hg : X.grownBy Y row) (hr : ∀ r, row = some r → ∃ o : Obj, X.heap[r]? = some o ∧ o.isCells = false) : IsY Y v l :=
 h.grownF hg fun g e => by
   obtain ⟨A, c, e1, h1, h2, h3, h4⟩ := h
   rcases List.eq_nil_or_concat l with rfl | ⟨_, _, rfl⟩
   · exact .inl rfl
   · exact .inr (away_own e1 h4 (by simp) (by rw [ys_len]) hr g e)
theorem OwnBs.ownr {b fl : Nat} {v : Value} {bs : List Bk} (h : OwnBs X b fl v bs) (hg : X.grownBy Y row) (hr : ∀ r, row = some r → ∃ o : Obj, X.heap[r]? = some o ∧ o.isCells = false) : OwnBs Y b fl v bs := by
 obtain ⟨es, h1, h2, h3, h4⟩ := h
 refine ⟨es, h1, fun e he => ⟨(h2 e he).1.ownr hg hr, (h2 e he).2.ownr hg hr⟩, h3, h4.kept hg ?_⟩
 rcases h4.2 with ⟨rfl, _⟩ | ⟨g, cap, cur, rfl, _, hh, _⟩
 · exact .inl rfl
 · right
   intro e
   obtain ⟨o, ho, hc⟩ := hr g (by rw [← e]; rfl)
   rw [hh] at ho; cases ho; cases hc
theorem OfI.own {k m o : Int} {Z : Nat} {A : Option Addr} {c : Nat} {l : List Int} {g x b : Nat} {ps : List Nat} (h : OfI k m o Z A c l g x b ps X) (hg : X.grownBy Y row) (hr : ∀ r, row = some r → ∃ o : Obj, X.heap[r]? = some o ∧ o.isCells = false) : OfI k m o Z A c l g x b ps Y := by
 obtain ⟨⟨v, h1, h2⟩, h3, h4, h5, h6, h7⟩ := h
 exact ⟨⟨v, blk_own h1 hg hr, h2.ownr hg hr⟩, h3, blk_own h4 hg hr, blk_own h5 hg hr, blk_own h6 hg hr, blk_own h7 hg hr⟩
theorem OfX.own {k m o : Int} {Z : Nat} {l : List Int} {g : Nat} {ps : List Nat} (h : OfX k m o Z l g ps X) (hg : X.grownBy Y row) (hr : ∀ r, row = some r → ∃ o : Obj, X.heap[r]? = some o ∧ o.isCells = false) : OfX k m o Z l g ps Y :=
 ⟨h.1, blk_own h.2.1 hg hr, blk_own h.2.2 hg hr⟩
end
set_option maxRecDepth 100000 in
set_option maxHeartbeats 4000000 in
theorem of_main (k m o : Int) (Z : Nat) (A : Option Addr) (c : Nat) (l : List Int) (w : World) (h : IsI w (.slice A l.length c) l) (hmay : mayB k Z m o = true) (z1 : 1 ≤ Z) (z2 : Z ≤ 4096) (hl : l.length ≤ 4096) (hi : ∀ x ∈ l, I64 x) :
   CallsIn Fence.wide 9 Tryz.prog 37 #[.agg #[.int .i64 k, .int .i64 Z, .int .i64 m, .int .i64 o], .slice A l.length c] w fun e w' => ∃ x, e = .returned (.tuple #[.agg #[.int .i64 (ofS k Z m o l).1, .int .i64 (ofS k Z m o l).2.1, .int .i64 (ofS k Z m o l).2.2.1, .int .i64 (ofS k Z m o l).2.2.2.1, .int .i64 (ofS k Z m o l).2.2.2.2.1, x], .int .i64 (ofE k Z m o l)]) ∧ OwnBs w' w.heap.size w.heap.size x (ofS k Z m o l).2.2.2.2.2 ∧ Below w.heap.size w w' := by
 obtain ⟨i0, hi0, hz0, hz1, hz2⟩ := info_parts info_blk
 have hM := fun n w => (callsIn_wide (n := n)).2 (tmay_any k Z m o w)
 rw [hmay] at hM
 have hl1 : decide ((4096 : Int) < (l.length : Int)) = false := decide_eq_false (by omega)
 have hl2 : decide (4096 < l.length) = false := decide_eq_false (by omega)
 obtain ⟨W0, hW, hK, hL, hS, hE, hB⟩ := box4t w 23 62 26 42 #[.int .i64 k, .int .i64 Z, .int .i64 m, .int .i64 o] #[.slice A l.length c] #[.int .i64 0, .int .i64 0, .int .i64 0, .int .i64 0, .int .i64 0, .slice none 0 0] #[.int .i64 0]
 have hW' := Lib.hid hW
 clear hW
 have k0 := hK.cell 0
 have k1 := hK.cell 1
 have k2 := hK.cell 2
 have k3 := hK.cell 3
 have l0 := hL.cell 0
 refine callsIn_of_wp_marks Tryz.func37 rfl trivial ?_ rfl
 simp only [Tryz.ntmps37, List.size_toArray, List.length_cons, List.length_nil, Nat.reduceAdd, Nat.reduceSub, Array.replicate_succ, Array.replicate_zero, List.push_toArray, List.append_toArray, List.nil_append, List.cons_append]
 gi_wp2_with (refine ⟨trivial, ?_⟩; gi_at_call 97; rw [← hW'.out]; refine (hM _ _).mono ?_; rintro e w1 ⟨rfl, b1⟩; have hK1 := hK.below b1 hK.lt; have hL1 := hL.below b1 hL.lt; have y0 := hK1.cell 0; have y1 := hK1.cell 1; have y2 := hK1.cell 2; have y3 := hK1.cell 3; have y4 := hL1.cell 0; have hK2 := hK1.alloc (.cells #[.int .i64 k, .int .i64 Z, .int .i64 m, .int .i64 o, .int .i64 l.length, .slice none 0 0] 26); have hL2 := hL1.alloc (.cells #[.int .i64 k, .int .i64 Z, .int .i64 m, .int .i64 o, .int .i64 l.length, .slice none 0 0] 26); have x1 := hK2.cell 1; have x4 := hL2.cell 0)
 refine ⟨trivial, ?_⟩
 refine (chunk_in _ _ _ _ _ z1 _).mono ?_
 rintro e w' ⟨rfl, rfl⟩
 gi_wp2_with fail
 have hR3 := (((Blk.new w1 26 #[.int .i64 k, .int .i64 Z, .int .i64 m, .int .i64 o, .int .i64 l.length, .slice none 0 0]).alloc (.cells #[.slice A l.length c] 62)).alloc (.cells #[.int .i64 Z] 3))
 have hK3 := (hK2.alloc (.cells #[.slice A l.length c] 62)).alloc (.cells #[.int .i64 Z] 3)
 have hL3 := (hL2.alloc (.cells #[.slice A l.length c] 62)).alloc (.cells #[.int .i64 Z] 3)
 have hS3 := (((hS.below b1 hS.lt).alloc (.cells #[.int .i64 k, .int .i64 Z, .int .i64 m, .int .i64 o, .int .i64 l.length, .slice none 0 0] 26)).alloc (.cells #[.slice A l.length c] 62)).alloc (.cells #[.int .i64 Z] 3)
 have hE3 := (((hE.below b1 hE.lt).alloc (.cells #[.int .i64 k, .int .i64 Z, .int .i64 m, .int .i64 o, .int .i64 l.length, .slice none 0 0] 26)).alloc (.cells #[.slice A l.length c] 62)).alloc (.cells #[.int .i64 Z] 3)
 have hC3 := (Blk.new (w1.alloc (.cells #[.int .i64 k, .int .i64 Z, .int .i64 m, .int .i64 o, .int .i64 l.length, .slice none 0 0] 26)) 62 #[.slice A l.length c]).alloc (.cells #[.int .i64 Z] 3)
 have hD3 := Blk.new ((w1.alloc (.cells #[.int .i64 k, .int .i64 Z, .int .i64 m, .int .i64 o, .int .i64 l.length, .slice none 0 0] 26)).alloc (.cells #[.slice A l.length c] 62)) 3 #[.int .i64 Z]
 simp only [World.size_alloc] at hC3 hD3
 have hB1 := hB.trans (b1.mono hB.size)
 have hB3 := ((hB1.alloc hB1.size (.cells #[.int .i64 k, .int .i64 Z, .int .i64 m, .int .i64 o, .int .i64 l.length, .slice none 0 0] 26)).alloc (by have := hB1.size; simp; omega) (.cells #[.slice A l.length c] 62)).alloc (by have := hB1.size; simp; omega) (.cells #[.int .i64 Z] 3)
 have hwX : w.heap.size + 1 + 1 + 1 < w1.heap.size := by have := hE.lt; have := b1.size; omega
 obtain ⟨W1, hW1⟩ : ∃ W1, W1 = ((w1.alloc (.cells #[.int .i64 k, .int .i64 Z, .int .i64 m, .int .i64 o, .int .i64 l.length, .slice none 0 0] 26)).alloc (.cells #[.slice A l.length c] 62)).alloc (.cells #[.int .i64 Z] 3) := ⟨_, rfl⟩
 have hsz : W1.heap.size = w1.heap.size + 1 + 1 + 1 := by rw [hW1]; simp
 rw [← hW1] at hR3 hK3 hL3 hS3 hE3 hC3 hD3 hB3 ⊢
 clear hW1 x1 x4 y0 y1 y2 y3 y4 k0 k1 k2 k3 l0 hK2 hL2 hK1 hL1 hK hL hS hE hB hB1 hW' hM b1
 have hcc := hC3.cell 0
 have hcd := hD3.cell 0
 generalize w1.heap.size = X at *
 refine wpIn_rangeFunc_ownG (n := 9) rfl (by omega) (gf := 158) (lb := #[.pointer (some ⟨X + 1, 0, none⟩), .pointer (some ⟨X + 1 + 1, 0, none⟩)]) rfl trivial (enters_of Tryz.func158 (by kernel_rfl) rfl)
   (chunk_stops (X + 1) w.heap.size c Z z1 z2 A l hl w h W1 (by omega) hcc hcd) KR.trans (KR.put (by omega) (by omega)) (Below.refl _ _) (fun _ => rfl)
   (fun pre W => OfI k m o Z A c l w.heap.size X W1.heap.size (pre.map (·.1)) W ∧ (Below w.heap.size w W ∧ W1.heap.size ≤ W.heap.size))
   (fun cd pre W => (cd = .ret ∧ OfX k m o Z l w.heap.size (pre.map (·.1)) W) ∧ Below w.heap.size w W)
   ?oI ?oX ?st ?a1 ?assign ?body ?done ?stop
 case assign =>
   intro lr x W K hK
   gi_wp2
   exact hK
 case oI => exact OwnFrom.and (Own.from (show Own (fun (s : List (Prt Z l)) (W : World) => OfI k m o Z A c l w.heap.size X W1.heap.size (s.map (·.1)) W) from fun s X Y row hs hg hr => OfI.own hs hg hr) _) (OwnFrom.and (ownFrom_below (by omega) (by omega)) (Own.from (show Own (fun (_ : List (Prt Z l)) (W : World) => W1.heap.size ≤ W.heap.size) from fun s X Y row hs hg hr => Nat.le_trans hs hg.size) _))
 case oX => exact fun cd => OwnFrom.and (Own.from (show Own (fun (s : List (Prt Z l)) (W : World) => cd = .ret ∧ OfX k m o Z l w.heap.size (s.map (·.1)) W) from fun s X Y row hs hg hr => ⟨hs.1, OfX.own hs.2 hg hr⟩) _) (ownFrom_below (by omega) (by omega))
 case st => exact ⟨⟨⟨_, hR3, OwnBs.nil _ _ _⟩, fun _ h => (nomatch h), hK3, hL3, hS3, hE3⟩, hB3, Nat.le_refl _⟩
 case body =>
   rintro lr pre x W ⟨⟨⟨v, hR, hown⟩, hodd, hK, hL, hS, hE⟩, hBel, hWs⟩ hlt
   have hp := (h.below hBel).part x.2
   have hpi : ∀ y ∈ partZ Z l x.1, I64 y := fun y hy => hi y (partZ_mem hy)
   have hpl : (partZ Z l x.1).length ≤ 4096 := by have := partZ_len Z l x.1; omega
   obtain ⟨xi, hxi⟩ : ∃ y, y = x.1 := ⟨_, rfl⟩
   obtain ⟨ps, hps⟩ : ∃ y, y = pre.map (fun y : Prt Z l => y.1) := ⟨_, rfl⟩
   have hnew : (pre ++ [x]).map (fun y : Prt Z l => y.1) = ps ++ [xi] := by rw [List.map_append, ← hps, hxi]; rfl
   have hplen : ps.length ≤ 4096 := by have := partN_le (z := Z) (n := l.length) z1; rw [hps, List.length_map]; omega
   have HNEW := Lib.hid hnew
   rw [← hps] at hown hodd
   obtain ⟨p, hpe⟩ : ∃ p, p = partZ Z l xi := ⟨_, rfl⟩
   obtain ⟨pv, hpv⟩ : ∃ pv, pv = partV A Z l.length x.1 := ⟨_, rfl⟩
   rw [← hxi, ← hpe] at hp hpi hpl
   rw [hxi, ← hpv] at hp
   have HPE := Lib.hid hpe
   have HPV := Lib.hid hpv
   try dsimp only
   rw [← hpv]
   clear hpe hpv hnew hlt hps hxi
   have hG := fun w h => tgreat_any pv p w h
   have hSt := fun w => tstays_any k Z m o l.length (greatW p) w
   obtain ⟨kk, hkk, hk4⟩ : ∃ kk, kk = kindOf k m o l.length p ∧ 0 ≤ kk ∧ kk ≤ 4 := ⟨_, rfl, by have := mayB_iff.1 hmay; rcases kindOf_or (k := k) (m := m) (o := o) l.length p with ⟨e, _⟩ | ⟨e, _⟩ <;> rw [e] <;> omega⟩
   have hks : (kk = 4 ∧ staysB m o l.length (greatW p) = true) ∨ (kk = k ∧ staysB m o l.length (greatW p) = false) := by rw [hkk]; exact kindOf_or _ _
   have HKK := Lib.hid hkk
   clear hkk
   generalize staysB m o (l.length : Int) (greatW p) = sb at *
   generalize greatW p = gp at *
   have k0 := hK.cell 0
   have k1 := hK.cell 1
   have k2 := hK.cell 2
   have k3 := hK.cell 3
   have l0 := hL.cell 0
   have hmx : Tryz.prog.follows .mixedOrders = true := by kernel_rfl
   have hGW := (hG W.drew (hp.below (bdrew W))).mono (R' := fun e w' => e = .returned (.int .i64 gp) ∧ w' = W.drew) (fun _ _ ⟨h, h'⟩ => ⟨h, h'.symm⟩)
   have HGW := Lib.hid hGW
   have HKS := Lib.hid hks
   have HODD := Lib.hid hodd
   clear hG hGW hks hodd
   gi_wp2_with fail
   refine wpInR_region_still_tail 5 hmx (by kernel_rfl) (by kernel_rfl) ?_
   simp only [List.take_succ_cons, List.take_zero, List.drop_succ_cons, List.drop_zero]
   iterate 4 still_step
   still_call HGW.out
   refine wpStill_nil ?_
   gi_wp2_with fail
   refine ⟨trivial, ?_⟩
   refine (CallsIn.inRound lr (callsIn_wide.2 (hSt _))).mono ?_
   rintro e w2 ⟨rfl, b2⟩
   have B2 : Below W.heap.size W w2 := bstep (bdrew W) b2
   have hp2 := hp.below B2
   clear hSt b2 k0 k1 k2 k3 l0 HGW
   rcases HKS.out with ⟨e4, rfl⟩ | ⟨e4, rfl⟩
   · have hP1 := fun w h (ho : oddP kk p = true) => pack_bad kk pv p w h hk4 ho
     have hP0 := fun w h (ho : oddP kk p = false) => pack_good kk pv p w h hk4 hpl hpi ho
     rw [e4] at hP1 hP0 hk4
     have HKK' := Lib.hid (HKK.out.symm.trans e4)
     clear HKK HKS e4 hk4 kk
     cases ho : oddP 4 p
     · have hP := fun w h => hP0 w h ho
       have hofb : Hid (bkP k m o Z l xi = bkOf 4 p) := Lib.hid (by unfold bkP; rw [← HPE.out, HKK'.out])
       have hofo : Hid (oddPi k m o Z l xi = false) := Lib.hid (by unfold oddPi; rw [← HPE.out, HKK'.out, ho])
       clear hP0 hP1 ho
       obtain ⟨⟨bk, bs, bc, bw⟩, hbb⟩ : ∃ b : Bk, b = bkOf 4 p := ⟨_, rfl⟩
       rw [← hbb] at hP hofb
       clear hbb
       gi_wp2_with fail
       refine ⟨trivial, ?_⟩
       refine (CallsIn.inRound lr (callsIn_wide.2 (hP _ hp2))).mono ?_
       rintro e w3 ⟨b, rfl, ⟨a1, a2, rfl, ha1, ha2⟩, b3, hfr⟩
       obtain ⟨A1, C1, rfl, _, _⟩ := id ha1.form
       obtain ⟨A2, C2, rfl, _, _⟩ := id ha2.form
       obtain ⟨_, _, _, _, hfe, hf1, hf2⟩ := hfr
       obtain ⟨rfl, rfl, rfl, rfl⟩ : _ ∧ _ ∧ _ ∧ _ := by simpa using hfe
       clear hfe hP
       have B3 := bstep B2 b3
       have hne : ∀ g, v.ownBlock = some g → g < w2.heap.size := fun g e => by
         obtain ⟨es, _, _, _, hr⟩ := hown
         exact Nat.lt_of_lt_of_le (hr.lt g e).2 B2.size
       have B4 : Below W.heap.size W (w3.alloc (.cells #[.int .i64 bk, .int .i64 bs, .slice A1 bc.length C1, .slice A2 bw.length C2] 103)) := balloc B3 _
       have hR4 := hR.below B4 hR.lt
       have hR5 := hR4.alloc (.cells #[.int .i64 bk, .int .i64 bs, .slice A1 bc.length C1, .slice A2 bw.length C2] 103)
       have hrow4 := hown.below B4
       have ha1' := ha1.below (balloc (Below.refl _ w3) (.cells #[.int .i64 bk, .int .i64 bs, .slice A1 bc.length C1, .slice A2 bw.length C2] 103))
       have ha2' := ha2.below (balloc (Below.refl _ w3) (.cells #[.int .i64 bk, .int .i64 bs, .slice A1 bc.length C1, .slice A2 bw.length C2] 103))
       have c5 := hR4.cell 5
       obtain ⟨es, hes, hok, haw, hrow⟩ := hrow4
       have hlen : es.length ≤ 4096 := by rw [← List.length_map (f := fun e : Eb => e.1), hes, List.length_map]; exact hplen
       have hbase : W1.heap.size ≤ (w3.alloc (.cells #[.int .i64 bk, .int .i64 bs, .slice A1 bc.length C1, .slice A2 bw.length C2] 103)).heap.size := Nat.le_trans hWs B4.size
       have hone := flatB_one [((bk, bs, bc, bw), (.slice A1 bc.length C1 : Value), (.slice A2 bw.length C2 : Value))] (w := w3) (fun e he => by
         obtain rfl := List.mem_singleton.1 he
         exact ⟨ha1, ha2⟩)
       have hlc := lit4_cells (w3.alloc (.cells #[.int .i64 bk, .int .i64 bs, .slice A1 bc.length C1, .slice A2 bw.length C2] 103)) 103 (.int .i64 bk) (.int .i64 bs) (.slice A1 bc.length C1) (.slice A2 bw.length C2)
       rw [World.size_alloc] at hlc
       have hwf := wide_fn 101
       gi_wp2_with (gi_at_builtin; go_must (refine wpListIn_append_own_at _ rfl (.tmp 49) (.tmp 51) _ rfl W1.heap.size 103 i0 _ 4 64 Tryz.underlying24 hi0 hz0 hz1 hz2 rfl (by omega) _ _ (flatB es) rfl (hrow.alloc _) ⟨w3.heap.size + 1, 0, none⟩ 1 1 (flatB [((bk, bs, bc, bw), (.slice A1 bc.length C1 : Value), (.slice A2 bw.length C2 : Value))]) rfl rfl hlc hone (by unfold maxLen; omega) (by omega) (by rw [World.size_alloc]; exact Nat.le_succ_of_le hbase) ?_; intro v' w6 hown' hgrow _ hat; obtain ⟨A7, C7, rfl, _, _⟩ := own4_form hown'; have hR6 := hR5.grown hgrow (fun e => own4_typed (hrow.alloc _) hR5 (by decide) e.symm); have c6 := hR6.cell 5; have f6 := hR6.frozen 5))
       obtain ⟨hbl, hko⟩ := below_grown4 hrow hbase hgrow
       have hwX : w.heap.size + 1 + 1 + 1 < X := by assumption
       have hX1 : X < W1.heap.size := by omega
       have hpush := OwnBs.push (fl := W1.heap.size) (ns := [((bk, bs, bc, bw), (.slice A1 bc.length C1 : Value), (.slice A2 bw.length C2 : Value))]) (hok.below (balloc (Below.refl _ _) (.cells #[.int .i64 bk, .int .i64 bs, .slice A1 bc.length C1, .slice A2 bw.length C2] 103))) haw
         (fun e he => by obtain rfl := List.mem_singleton.1 he; exact ⟨ha1'.below (balloc (Below.refl _ _) _), ha2'.below (balloc (Below.refl _ _) _)⟩)
         (fun e he => by
           obtain rfl := List.mem_singleton.1 he
           exact ⟨fun g eg => ⟨.inr (hf1.ne (hne g eg)), .inr (hf2.ne (hne g eg))⟩, hf1.more (Nat.le_trans hWs B2.size), hf2.more (Nat.le_trans hWs B2.size)⟩) rfl hown' hgrow hat
       rw [hes] at hpush
       have hOB := hpush.set (i := 5) hX1 hX1 (.slice A7 (es.length + 1) C7)
       have hR7 := hR6.set_ 5 (.slice A7 (es.length + 1) C7)
       have hK7 := ((hK.below B4 hK.lt).below hbl (show w.heap.size < W1.heap.size by omega)).far (p := ⟨X, 5, none⟩) (show w.heap.size ≠ X by omega) (.slice A7 (es.length + 1) C7)
       have hL7 := ((hL.below B4 hL.lt).below hbl (show w.heap.size + 1 < W1.heap.size by omega)).far (p := ⟨X, 5, none⟩) (show w.heap.size + 1 ≠ X by omega) (.slice A7 (es.length + 1) C7)
       have hS7 := ((hS.below B4 hS.lt).below hbl (show w.heap.size + 1 + 1 < W1.heap.size by omega)).far (p := ⟨X, 5, none⟩) (show w.heap.size + 1 + 1 ≠ X by omega) (.slice A7 (es.length + 1) C7)
       have hE7 := ((hE.below B4 hE.lt).below hbl (show w.heap.size + 1 + 1 + 1 < W1.heap.size by omega)).far (p := ⟨X, 5, none⟩) (show w.heap.size + 1 + 1 + 1 ≠ X by omega) (.slice A7 (es.length + 1) C7)
       refine ⟨?_, ?_, ?_⟩
       · refine KeepsOthers.from (KeepsOthers.trans (KeepsOthers.trans ⟨B4.size, fun k o hk ho => ?_⟩ ⟨hbl.size, hko⟩) (KeepsOthers.setCell _ _ _)) _
         exact (B4.block k (Array.getElem?_eq_some_iff.1 hk).1).trans hk
       · exact ((KR.of_below (B4.mono hWs) (by omega) (by omega)).trans (KR.of_below hbl (by omega) (by omega))).setAt (by omega) (.inl (by omega)) _
       · refine ⟨⟨⟨_, by simpa using hR7, ?_⟩, ?_, hK7, hL7, hS7, hE7⟩, ?_, ?_⟩
         · rw [HNEW.out, List.map_append]
           have e1 : [xi].map (bkP k m o Z l) = [((bk, bs, bc, bw) : Bk)] := by simp [hofb.out]
           rw [e1]; exact hOB
         · rw [HNEW.out]
           intro i hi'
           rcases List.mem_append.1 hi' with h1 | h1
           · exact HODD.out i h1
           · rw [List.mem_singleton.1 h1]; exact hofo.out
         · exact ((hBel.trans (B4.mono hBel.size)).trans (hbl.mono (by omega))).setCell (p := ⟨X, 5, none⟩) (by show w.heap.size ≤ X; omega) _
         · simp [World.setCell]; exact Nat.le_trans hbase hbl.size
     · have hP := fun w h => hP1 w h ho
       have hofo : Hid (oddPi k m o Z l xi = true) := Lib.hid (by unfold oddPi; rw [← HPE.out, HKK'.out, ho])
       clear hP0 hP1 ho
       gi_wp2_with fail
       refine ⟨trivial, ?_⟩
       refine (CallsIn.inRound lr (callsIn_wide.2 (hP _ hp2))).mono ?_
       rintro e w3 ⟨b, rfl, ⟨a1, a2, rfl, ha1, ha2⟩, b3⟩
       obtain ⟨A1, C1, rfl, _, _⟩ := id ha1.form
       obtain ⟨A2, C2, rfl, _, _⟩ := id ha2.form
       have B3 := bstep B2 b3
       have B4 : Below W.heap.size W (w3.alloc (.cells #[.int .i64 0, .int .i64 0, .slice A1 0 C1, .slice A2 0 C2] 103)) := balloc B3 _
       have hS4 := hS.below B4 hS.lt
       have hE4 := hE.below B4 hE.lt
       have s0 := hS4.cell 0
       have s1 := hS4.cell 1
       have s2 := hS4.cell 2
       have s3 := hS4.cell 3
       have s4 := hS4.cell 4
       have s5 := hS4.cell 5
       have f0 := hS4.frozen 0
       have f1 := hS4.frozen 1
       have f2 := hS4.frozen 2
       have f3 := hS4.frozen 3
       have f4 := hS4.frozen 4
       have f5 := hS4.frozen 5
       have t0 := hE4.cell 0
       have t1 := hE4.frozen 0
       gi_wp2
       have hS8 := ((((((hS4.set_ 0 (.int .i64 0)).set_ 1 (.int .i64 0)).set_ 2 (.int .i64 0)).set_ 3 (.int .i64 0)).set_ 4 (.int .i64 0)).set_ 5 (.slice none 0 0)).far (p := ⟨w.heap.size + 1 + 1 + 1, 0, none⟩) (show w.heap.size + 1 + 1 ≠ w.heap.size + 1 + 1 + 1 by omega) (.int .i64 1)
       have far := fun (w9 : World) (i : Nat) (u : Value) (h9 : Blk w9 (w.heap.size + 1 + 1 + 1) 42 #[.int .i64 0]) => h9.far (p := ⟨w.heap.size + 1 + 1, i, none⟩) (show w.heap.size + 1 + 1 + 1 ≠ w.heap.size + 1 + 1 by omega) u
       have hE8 := (far _ 5 (.slice none 0 0) (far _ 4 (.int .i64 0) (far _ 3 (.int .i64 0) (far _ 2 (.int .i64 0) (far _ 1 (.int .i64 0) (far _ 0 (.int .i64 0) hE4)))))).set_ 0 (.int .i64 1)
       refine ⟨?_, ⟨rfl, ⟨xi, ?_, hofo.out⟩, by simpa using hS8, by simpa using hE8⟩, ?_⟩
       · refine KeepsOthers.from (KeepsOthers.trans (B := w3.alloc (.cells #[.int .i64 0, .int .i64 0, .slice A1 0 C1, .slice A2 0 C2] 103)) ⟨B4.size, fun k o hk ho => (B4.block k (Array.getElem?_eq_some_iff.1 hk).1).trans hk⟩ ?_) _
         exact (((((((KeepsOthers.setCell _ _ _).trans (KeepsOthers.setCell _ _ _)).trans (KeepsOthers.setCell _ _ _)).trans (KeepsOthers.setCell _ _ _)).trans (KeepsOthers.setCell _ _ _)).trans (KeepsOthers.setCell _ _ _)).trans (KeepsOthers.setCell _ _ _))
       · rw [HNEW.out]; simp
       · exact bset (bset (bset (bset (bset (bset (bset (hBel.trans (B4.mono hBel.size)) (by omega) _) (by omega) _) (by omega) _) (by omega) _) (by omega) _) (by omega) _) (by omega) _
   · have hP1 := fun w h (ho : oddP kk p = true) => pack_bad kk pv p w h hk4 ho
     have hP0 := fun w h (ho : oddP kk p = false) => pack_good kk pv p w h hk4 hpl hpi ho
     rw [e4] at hP1 hP0 hk4
     have HKK' := Lib.hid (HKK.out.symm.trans e4)
     clear HKK HKS e4 hk4 kk
     cases ho : oddP k p
     · have hP := fun w h => hP0 w h ho
       have hofb : Hid (bkP k m o Z l xi = bkOf k p) := Lib.hid (by unfold bkP; rw [← HPE.out, HKK'.out])
       have hofo : Hid (oddPi k m o Z l xi = false) := Lib.hid (by unfold oddPi; rw [← HPE.out, HKK'.out, ho])
       clear hP0 hP1 ho
       obtain ⟨⟨bk, bs, bc, bw⟩, hbb⟩ : ∃ b : Bk, b = bkOf k p := ⟨_, rfl⟩
       rw [← hbb] at hP hofb
       clear hbb
       gi_wp2_with fail
       refine ⟨trivial, ?_⟩
       refine (CallsIn.inRound lr (callsIn_wide.2 (hP _ hp2))).mono ?_
       rintro e w3 ⟨b, rfl, ⟨a1, a2, rfl, ha1, ha2⟩, b3, hfr⟩
       obtain ⟨A1, C1, rfl, _, _⟩ := id ha1.form
       obtain ⟨A2, C2, rfl, _, _⟩ := id ha2.form
       obtain ⟨_, _, _, _, hfe, hf1, hf2⟩ := hfr
       obtain ⟨rfl, rfl, rfl, rfl⟩ : _ ∧ _ ∧ _ ∧ _ := by simpa using hfe
       clear hfe hP
       have B3 := bstep B2 b3
       have hne : ∀ g, v.ownBlock = some g → g < w2.heap.size := fun g e => by
         obtain ⟨es, _, _, _, hr⟩ := hown
         exact Nat.lt_of_lt_of_le (hr.lt g e).2 B2.size
       have B4 : Below W.heap.size W (w3.alloc (.cells #[.int .i64 bk, .int .i64 bs, .slice A1 bc.length C1, .slice A2 bw.length C2] 103)) := balloc B3 _
       have hR4 := hR.below B4 hR.lt
       have hR5 := hR4.alloc (.cells #[.int .i64 bk, .int .i64 bs, .slice A1 bc.length C1, .slice A2 bw.length C2] 103)
       have hrow4 := hown.below B4
       have ha1' := ha1.below (balloc (Below.refl _ w3) (.cells #[.int .i64 bk, .int .i64 bs, .slice A1 bc.length C1, .slice A2 bw.length C2] 103))
       have ha2' := ha2.below (balloc (Below.refl _ w3) (.cells #[.int .i64 bk, .int .i64 bs, .slice A1 bc.length C1, .slice A2 bw.length C2] 103))
       have c5 := hR4.cell 5
       obtain ⟨es, hes, hok, haw, hrow⟩ := hrow4
       have hlen : es.length ≤ 4096 := by rw [← List.length_map (f := fun e : Eb => e.1), hes, List.length_map]; exact hplen
       have hbase : W1.heap.size ≤ (w3.alloc (.cells #[.int .i64 bk, .int .i64 bs, .slice A1 bc.length C1, .slice A2 bw.length C2] 103)).heap.size := Nat.le_trans hWs B4.size
       have hone := flatB_one [((bk, bs, bc, bw), (.slice A1 bc.length C1 : Value), (.slice A2 bw.length C2 : Value))] (w := w3) (fun e he => by
         obtain rfl := List.mem_singleton.1 he
         exact ⟨ha1, ha2⟩)
       have hlc := lit4_cells (w3.alloc (.cells #[.int .i64 bk, .int .i64 bs, .slice A1 bc.length C1, .slice A2 bw.length C2] 103)) 103 (.int .i64 bk) (.int .i64 bs) (.slice A1 bc.length C1) (.slice A2 bw.length C2)
       rw [World.size_alloc] at hlc
       have hwf := wide_fn 101
       gi_wp2_with (gi_at_builtin; go_must (refine wpListIn_append_own_at _ rfl (.tmp 49) (.tmp 51) _ rfl W1.heap.size 103 i0 _ 4 64 Tryz.underlying24 hi0 hz0 hz1 hz2 rfl (by omega) _ _ (flatB es) rfl (hrow.alloc _) ⟨w3.heap.size + 1, 0, none⟩ 1 1 (flatB [((bk, bs, bc, bw), (.slice A1 bc.length C1 : Value), (.slice A2 bw.length C2 : Value))]) rfl rfl hlc hone (by unfold maxLen; omega) (by omega) (by rw [World.size_alloc]; exact Nat.le_succ_of_le hbase) ?_; intro v' w6 hown' hgrow _ hat; obtain ⟨A7, C7, rfl, _, _⟩ := own4_form hown'; have hR6 := hR5.grown hgrow (fun e => own4_typed (hrow.alloc _) hR5 (by decide) e.symm); have c6 := hR6.cell 5; have f6 := hR6.frozen 5))
       obtain ⟨hbl, hko⟩ := below_grown4 hrow hbase hgrow
       have hwX : w.heap.size + 1 + 1 + 1 < X := by assumption
       have hX1 : X < W1.heap.size := by omega
       have hpush := OwnBs.push (fl := W1.heap.size) (ns := [((bk, bs, bc, bw), (.slice A1 bc.length C1 : Value), (.slice A2 bw.length C2 : Value))]) (hok.below (balloc (Below.refl _ _) (.cells #[.int .i64 bk, .int .i64 bs, .slice A1 bc.length C1, .slice A2 bw.length C2] 103))) haw
         (fun e he => by obtain rfl := List.mem_singleton.1 he; exact ⟨ha1'.below (balloc (Below.refl _ _) _), ha2'.below (balloc (Below.refl _ _) _)⟩)
         (fun e he => by
           obtain rfl := List.mem_singleton.1 he
           exact ⟨fun g eg => ⟨.inr (hf1.ne (hne g eg)), .inr (hf2.ne (hne g eg))⟩, hf1.more (Nat.le_trans hWs B2.size), hf2.more (Nat.le_trans hWs B2.size)⟩) rfl hown' hgrow hat
       rw [hes] at hpush
       have hOB := hpush.set (i := 5) hX1 hX1 (.slice A7 (es.length + 1) C7)
       have hR7 := hR6.set_ 5 (.slice A7 (es.length + 1) C7)
       have hK7 := ((hK.below B4 hK.lt).below hbl (show w.heap.size < W1.heap.size by omega)).far (p := ⟨X, 5, none⟩) (show w.heap.size ≠ X by omega) (.slice A7 (es.length + 1) C7)
       have hL7 := ((hL.below B4 hL.lt).below hbl (show w.heap.size + 1 < W1.heap.size by omega)).far (p := ⟨X, 5, none⟩) (show w.heap.size + 1 ≠ X by omega) (.slice A7 (es.length + 1) C7)
       have hS7 := ((hS.below B4 hS.lt).below hbl (show w.heap.size + 1 + 1 < W1.heap.size by omega)).far (p := ⟨X, 5, none⟩) (show w.heap.size + 1 + 1 ≠ X by omega) (.slice A7 (es.length + 1) C7)
       have hE7 := ((hE.below B4 hE.lt).below hbl (show w.heap.size + 1 + 1 + 1 < W1.heap.size by omega)).far (p := ⟨X, 5, none⟩) (show w.heap.size + 1 + 1 + 1 ≠ X by omega) (.slice A7 (es.length + 1) C7)
       refine ⟨?_, ?_, ?_⟩
       · refine KeepsOthers.from (KeepsOthers.trans (KeepsOthers.trans ⟨B4.size, fun k o hk ho => ?_⟩ ⟨hbl.size, hko⟩) (KeepsOthers.setCell _ _ _)) _
         exact (B4.block k (Array.getElem?_eq_some_iff.1 hk).1).trans hk
       · exact ((KR.of_below (B4.mono hWs) (by omega) (by omega)).trans (KR.of_below hbl (by omega) (by omega))).setAt (by omega) (.inl (by omega)) _
       · refine ⟨⟨⟨_, by simpa using hR7, ?_⟩, ?_, hK7, hL7, hS7, hE7⟩, ?_, ?_⟩
         · rw [HNEW.out, List.map_append]
           have e1 : [xi].map (bkP k m o Z l) = [((bk, bs, bc, bw) : Bk)] := by simp [hofb.out]
           rw [e1]; exact hOB
         · rw [HNEW.out]
           intro i hi'
           rcases List.mem_append.1 hi' with h1 | h1
           · exact HODD.out i h1
           · rw [List.mem_singleton.1 h1]; exact hofo.out
         · exact ((hBel.trans (B4.mono hBel.size)).trans (hbl.mono (by omega))).setCell (p := ⟨X, 5, none⟩) (by show w.heap.size ≤ X; omega) _
         · simp [World.setCell]; exact Nat.le_trans hbase hbl.size
     · have hP := fun w h => hP1 w h ho
       have hofo : Hid (oddPi k m o Z l xi = true) := Lib.hid (by unfold oddPi; rw [← HPE.out, HKK'.out, ho])
       clear hP0 hP1 ho
       gi_wp2_with fail
       refine ⟨trivial, ?_⟩
       refine (CallsIn.inRound lr (callsIn_wide.2 (hP _ hp2))).mono ?_
       rintro e w3 ⟨b, rfl, ⟨a1, a2, rfl, ha1, ha2⟩, b3⟩
       obtain ⟨A1, C1, rfl, _, _⟩ := id ha1.form
       obtain ⟨A2, C2, rfl, _, _⟩ := id ha2.form
       have B3 := bstep B2 b3
       have B4 : Below W.heap.size W (w3.alloc (.cells #[.int .i64 0, .int .i64 0, .slice A1 0 C1, .slice A2 0 C2] 103)) := balloc B3 _
       have hS4 := hS.below B4 hS.lt
       have hE4 := hE.below B4 hE.lt
       have s0 := hS4.cell 0
       have s1 := hS4.cell 1
       have s2 := hS4.cell 2
       have s3 := hS4.cell 3
       have s4 := hS4.cell 4
       have s5 := hS4.cell 5
       have f0 := hS4.frozen 0
       have f1 := hS4.frozen 1
       have f2 := hS4.frozen 2
       have f3 := hS4.frozen 3
       have f4 := hS4.frozen 4
       have f5 := hS4.frozen 5
       have t0 := hE4.cell 0
       have t1 := hE4.frozen 0
       gi_wp2
       have hS8 := ((((((hS4.set_ 0 (.int .i64 0)).set_ 1 (.int .i64 0)).set_ 2 (.int .i64 0)).set_ 3 (.int .i64 0)).set_ 4 (.int .i64 0)).set_ 5 (.slice none 0 0)).far (p := ⟨w.heap.size + 1 + 1 + 1, 0, none⟩) (show w.heap.size + 1 + 1 ≠ w.heap.size + 1 + 1 + 1 by omega) (.int .i64 1)
       have far := fun (w9 : World) (i : Nat) (u : Value) (h9 : Blk w9 (w.heap.size + 1 + 1 + 1) 42 #[.int .i64 0]) => h9.far (p := ⟨w.heap.size + 1 + 1, i, none⟩) (show w.heap.size + 1 + 1 + 1 ≠ w.heap.size + 1 + 1 by omega) u
       have hE8 := (far _ 5 (.slice none 0 0) (far _ 4 (.int .i64 0) (far _ 3 (.int .i64 0) (far _ 2 (.int .i64 0) (far _ 1 (.int .i64 0) (far _ 0 (.int .i64 0) hE4)))))).set_ 0 (.int .i64 1)
       refine ⟨?_, ⟨rfl, ⟨xi, ?_, hofo.out⟩, by simpa using hS8, by simpa using hE8⟩, ?_⟩
       · refine KeepsOthers.from (KeepsOthers.trans (B := w3.alloc (.cells #[.int .i64 0, .int .i64 0, .slice A1 0 C1, .slice A2 0 C2] 103)) ⟨B4.size, fun k o hk ho => (B4.block k (Array.getElem?_eq_some_iff.1 hk).1).trans hk⟩ ?_) _
         exact (((((((KeepsOthers.setCell _ _ _).trans (KeepsOthers.setCell _ _ _)).trans (KeepsOthers.setCell _ _ _)).trans (KeepsOthers.setCell _ _ _)).trans (KeepsOthers.setCell _ _ _)).trans (KeepsOthers.setCell _ _ _)).trans (KeepsOthers.setCell _ _ _))
       · rw [HNEW.out]; simp
       · exact bset (bset (bset (bset (bset (bset (bset (hBel.trans (B4.mono hBel.size)) (by omega) _) (by omega) _) (by omega) _) (by omega) _) (by omega) _) (by omega) _) (by omega) _
 case done =>
   rintro D ys W hD hys ⟨⟨⟨v, hR, hown⟩, hodd, hK, hL, hS, hE⟩, hBel, hWs⟩ hKD
   rw [hys] at hown hodd
   have hodd' : oddTo k Z m o l (partN Z l.length) = false := by
     unfold oddTo; rw [List.any_eq_false]
     intro i hi'
     have := hodd i hi'
     unfold oddPi at this
     rw [Int.toNat_natCast, this]; simp
   have he : ofE k Z m o l = 0 := ofE_ok hmay hl (by rw [Int.toNat_natCast]; exact hodd')
   have hbk : (List.range (partN Z l.length)).map (bkP k m o Z l) = bksTo k Z m o l (partN (Z : Int).toNat l.length) := by
     unfold bksTo; rw [Int.toNat_natCast]; rfl
   rw [hbk] at hown
   have hofs : ofS k Z m o l = (k, (Z : Int), m, o, (l.length : Int), bksTo k Z m o l (partN (Z : Int).toNat l.length)) := if_pos he
   have hib := hown.is
   obtain ⟨A9, C9, rfl, _, _⟩ := id hib.len
   generalize bksTo k (Z : Int) m o l (partN (Z : Int).toNat l.length) = bs at *
   have r0 := hR.cell 0
   have r1 := hR.cell 1
   have r2 := hR.cell 2
   have r3 := hR.cell 3
   have r4 := hR.cell 4
   have r5 := hR.cell 5
   have s0 := hS.cell 0
   have s1 := hS.cell 1
   have s2 := hS.cell 2
   have s3 := hS.cell 3
   have s4 := hS.cell 4
   have s5 := hS.cell 5
   have f0 := hS.frozen 0
   have f1 := hS.frozen 1
   have f2 := hS.frozen 2
   have f3 := hS.frozen 3
   have f4 := hS.frozen 4
   have f5 := hS.frozen 5
   have t0 := hE.cell 0
   have t1 := hE.frozen 0
   have HHH := Lib.hid (And.intro he (And.intro hys (And.intro hofs (And.intro hbk hodd))))
   clear he hys hofs hbk hodd hodd'
   gi_wp2
   have OB8 := ((((((hown.set (X := w.heap.size + 1 + 1) (i := 0) (by omega) (by omega) (.int .i64 k)).set (X := w.heap.size + 1 + 1) (i := 1) (by omega) (by omega) (.int .i64 Z)).set (X := w.heap.size + 1 + 1) (i := 2) (by omega) (by omega) (.int .i64 m)).set (X := w.heap.size + 1 + 1) (i := 3) (by omega) (by omega) (.int .i64 o)).set (X := w.heap.size + 1 + 1) (i := 4) (by omega) (by omega) (.int .i64 l.length)).set (X := w.heap.size + 1 + 1) (i := 5) (by omega) (by omega) (.slice A9 bs.length C9)).set (X := w.heap.size + 1 + 1 + 1) (i := 0) (by omega) (by omega) (.int .i64 0)
   have hS8 := ((((((hS.set_ 0 (.int .i64 k)).set_ 1 (.int .i64 Z)).set_ 2 (.int .i64 m)).set_ 3 (.int .i64 o)).set_ 4 (.int .i64 l.length)).set_ 5 (.slice A9 bs.length C9)).far (p := ⟨w.heap.size + 1 + 1 + 1, 0, none⟩) (show w.heap.size + 1 + 1 ≠ w.heap.size + 1 + 1 + 1 by omega) (.int .i64 0)
   have far := fun (w9 : World) (i : Nat) (u : Value) (h9 : Blk w9 (w.heap.size + 1 + 1 + 1) 42 #[.int .i64 0]) => h9.far (p := ⟨w.heap.size + 1 + 1, i, none⟩) (show w.heap.size + 1 + 1 + 1 ≠ w.heap.size + 1 + 1 by omega) u
   have hE8 := (far _ 5 (.slice A9 bs.length C9) (far _ 4 (.int .i64 l.length) (far _ 3 (.int .i64 o) (far _ 2 (.int .i64 m) (far _ 1 (.int .i64 Z) (far _ 0 (.int .i64 k) hE)))))).set_ 0 (.int .i64 0)
   have hB8 := bset (bset (bset (bset (bset (bset (bset hBel (show w.heap.size ≤ w.heap.size + 1 + 1 by omega) (i := 0) (.int .i64 k)) (show w.heap.size ≤ w.heap.size + 1 + 1 by omega) (i := 1) (.int .i64 Z)) (show w.heap.size ≤ w.heap.size + 1 + 1 by omega) (i := 2) (.int .i64 m)) (show w.heap.size ≤ w.heap.size + 1 + 1 by omega) (i := 3) (.int .i64 o)) (show w.heap.size ≤ w.heap.size + 1 + 1 by omega) (i := 4) (.int .i64 l.length)) (show w.heap.size ≤ w.heap.size + 1 + 1 by omega) (i := 5) (.slice A9 bs.length C9)) (show w.heap.size ≤ w.heap.size + 1 + 1 + 1 by omega) (i := 0) (.int .i64 0)
   have KO : KeepsOthers W _ := (((((((KeepsOthers.setCell W ⟨w.heap.size + 1 + 1, 0, none⟩ (.int .i64 k)).trans (KeepsOthers.setCell _ ⟨w.heap.size + 1 + 1, 1, none⟩ (.int .i64 Z))).trans (KeepsOthers.setCell _ ⟨w.heap.size + 1 + 1, 2, none⟩ (.int .i64 m))).trans (KeepsOthers.setCell _ ⟨w.heap.size + 1 + 1, 3, none⟩ (.int .i64 o))).trans (KeepsOthers.setCell _ ⟨w.heap.size + 1 + 1, 4, none⟩ (.int .i64 l.length))).trans (KeepsOthers.setCell _ ⟨w.heap.size + 1 + 1, 5, none⟩ (.slice A9 bs.length C9))).trans (KeepsOthers.setCell _ ⟨w.heap.size + 1 + 1 + 1, 0, none⟩ (.int .i64 0)))
   have hK' := KO.same D _ hKD rfl
   refine ⟨by simp, .inl ⟨_, _, rfl, run_takeDeferred hK', ?_⟩⟩
   have hS9 := blk_own hS8 (grownBy_putObj' _ D (.deferred none)) (fun r e => by cases e; exact ⟨_, hK', rfl⟩)
   have hE9 := blk_own hE8 (grownBy_putObj' _ D (.deferred none)) (fun r e => by cases e; exact ⟨_, hK', rfl⟩)
   have OB9 := OB8.ownr (grownBy_putObj' _ D (.deferred none)) (fun r e => by cases e; exact ⟨_, hK', rfl⟩)
   have q0 := hS9.cell 0
   have q1 := hS9.cell 1
   have q2 := hS9.cell 2
   have q3 := hS9.cell 3
   have q4 := hS9.cell 4
   have q5 := hS9.cell 5
   have q6 := hE9.cell 0
   refine ⟨.tuple #[.agg #[.int .i64 k, .int .i64 Z, .int .i64 m, .int .i64 o, .int .i64 l.length, .slice A9 bs.length C9], .int .i64 0], ?_, ⟨_, by rw [HHH.out.1, HHH.out.2.2.1], ?_, hB8.trans (belowK_b (w := w) (Nat.le_refl _) _ D _ (.deferred none) (by omega) hK' rfl rfl)⟩⟩
   · simp at q0 q1 q2 q3 q4 q5 q6
     simp [results, Tryz.f37, go_sem, q0, q1, q2, q3, q4, q5, q6]
   · rw [HHH.out.2.2.1]; exact OB9.lower (by omega) (by omega)
 case stop =>
   rintro D cd pre W hD hpre ⟨⟨rfl, ⟨i, hi', hodd⟩, hS, hE⟩, hBel⟩ hKD
   obtain ⟨q, hq, hpre⟩ := hpre
   have hodd' : oddTo k Z m o l (partN Z l.length) = true := by
     unfold oddTo
     rw [hpre] at hi'
     exact List.any_eq_true.2 ⟨i, List.mem_range.2 (by have := List.mem_range.1 hi'; omega), by rw [Int.toNat_natCast]; exact hodd⟩
   have he : ofE k Z m o l = 1 := by unfold ofE; rw [if_pos hmay, if_pos hl, Int.toNat_natCast, hodd']; rfl
   have hofs : ofS k Z m o l = (0, 0, 0, 0, 0, []) := if_neg (by rw [he]; decide)
   have s0 := hS.cell 0
   have s1 := hS.cell 1
   have s2 := hS.cell 2
   have s3 := hS.cell 3
   have s4 := hS.cell 4
   have s5 := hS.cell 5
   have t0 := hE.cell 0
   have HHH := Lib.hid (And.intro he hofs)
   clear he hofs hodd hodd' hpre hi' hq
   gi_wp2
   refine ⟨by simp, .inl ⟨_, _, rfl, run_takeDeferred hKD, ?_⟩⟩
   have hg9 := grownBy_putObj' W D (.deferred none)
   have hS9 := blk_own hS hg9 (fun r e => by cases e; exact ⟨_, hKD, rfl⟩)
   have hE9 := blk_own hE hg9 (fun r e => by cases e; exact ⟨_, hKD, rfl⟩)
   have q0 := hS9.cell 0
   have q1 := hS9.cell 1
   have q2 := hS9.cell 2
   have q3 := hS9.cell 3
   have q4 := hS9.cell 4
   have q5 := hS9.cell 5
   have q6 := hE9.cell 0
   refine ⟨.tuple #[.agg #[.int .i64 0, .int .i64 0, .int .i64 0, .int .i64 0, .int .i64 0, .slice none 0 0], .int .i64 1], ?_, ⟨_, by rw [HHH.out.1, HHH.out.2], ?_, hBel.trans (belowK_b (w := w) (Nat.le_refl _) W D _ (.deferred none) (by omega) hKD rfl rfl)⟩⟩
   · simp at q0 q1 q2 q3 q4 q5 q6
     simp [results, Tryz.f37, go_sem, q0, q1, q2, q3, q4, q5, q6]
   · rw [HHH.out.2]; exact OwnBs.nil _ _ _
end Go.Proofs.YtdnjdglekifhpaaGreat
namespace Go.Proofs.YtdnjdglekifhpaaGreat
open Go.RowKit Go.Shelf
attribute [local go_sem] Oper.semAt_some
set_option maxRecDepth 100000 in
set_option maxHeartbeats 4000000 in
theorem of_wrong (k z m o : Int) (v : Value) (l : List Int) (w : World) (h : IsI w v l) (hmay : mayB k z m o = false) :
   CallsIn Fence.wide 9 Tryz.prog 37 #[.agg #[.int .i64 k, .int .i64 z, .int .i64 m, .int .i64 o], v] w fun e w' => ∃ x, e = .returned (.tuple #[.agg #[.int .i64 0, .int .i64 0, .int .i64 0, .int .i64 0, .int .i64 0, x], .int .i64 1]) ∧ OwnBs w' w.heap.size w.heap.size x [] ∧ Below w.heap.size w w' := by
 obtain ⟨A, c, rfl, _, _⟩ := id h.form
 have hM := fun n w => (callsIn_wide (n := n)).2 (tmay_any k z m o w)
 rw [hmay] at hM
 obtain ⟨W0, hW, hK, hL, hS, hE, hB⟩ := box4t w 23 62 26 42 #[.int .i64 k, .int .i64 z, .int .i64 m, .int .i64 o] #[.slice A l.length c] #[.int .i64 0, .int .i64 0, .int .i64 0, .int .i64 0, .int .i64 0, .slice none 0 0] #[.int .i64 0]
 have hW' := Lib.hid hW
 clear hW
 have k0 := hK.cell 0
 have k1 := hK.cell 1
 have k2 := hK.cell 2
 have k3 := hK.cell 3
 refine callsIn_of_wp_marks Tryz.func37 rfl trivial ?_ rfl
 simp only [Tryz.ntmps37, List.size_toArray, List.length_cons, List.length_nil, Nat.reduceAdd, Nat.reduceSub, Array.replicate_succ, Array.replicate_zero, List.push_toArray, List.append_toArray, List.nil_append, List.cons_append]
 gi_wp2_with fail
 refine ⟨trivial, ?_⟩
 rw [← hW'.out]
 refine (hM _ _).mono ?_
 rintro e w1 ⟨rfl, b1⟩
 have hS1 := hS.below b1 hS.lt
 have hE1 := hE.below b1 hE.lt
 have hL1 := hL.below b1 hL.lt
 have l0 := hL1.cell 0
 have s0 := hS1.cell 0
 have f0 := hS1.frozen 0
 have s1 := hS1.cell 1
 have f1 := hS1.frozen 1
 have s2 := hS1.cell 2
 have f2 := hS1.frozen 2
 have s3 := hS1.cell 3
 have f3 := hS1.frozen 3
 have s4 := hS1.cell 4
 have f4 := hS1.frozen 4
 have s5 := hS1.cell 5
 have f5 := hS1.frozen 5
 have t0 := hE1.cell 0
 have t1 := hE1.frozen 0
 gi_wp2
 have hS8 := ((((((hS1.set_ 0 (.int .i64 0)).set_ 1 (.int .i64 0)).set_ 2 (.int .i64 0)).set_ 3 (.int .i64 0)).set_ 4 (.int .i64 0)).set_ 5 (.slice none 0 0)).far (p := ⟨w.heap.size + 1 + 1 + 1, 0, none⟩) (show w.heap.size + 1 + 1 ≠ w.heap.size + 1 + 1 + 1 by omega) (.int .i64 1)
 have far := fun (w9 : World) (i : Nat) (u : Value) (h9 : Blk w9 (w.heap.size + 1 + 1 + 1) 42 #[.int .i64 0]) => h9.far (p := ⟨w.heap.size + 1 + 1, i, none⟩) (show w.heap.size + 1 + 1 + 1 ≠ w.heap.size + 1 + 1 by omega) u
 have hE8 := (far _ 5 (.slice none 0 0) (far _ 4 (.int .i64 0) (far _ 3 (.int .i64 0) (far _ 2 (.int .i64 0) (far _ 1 (.int .i64 0) (far _ 0 (.int .i64 0) hE1)))))).set_ 0 (.int .i64 1)
 have hB1 := hB.trans (b1.mono hB.size)
 have q0 := hS8.cell 0
 have q1 := hS8.cell 1
 have q2 := hS8.cell 2
 have q3 := hS8.cell 3
 have q4 := hS8.cell 4
 have q5 := hS8.cell 5
 have q6 := hE8.cell 0
 refine ⟨.tuple #[.agg #[.int .i64 0, .int .i64 0, .int .i64 0, .int .i64 0, .int .i64 0, .slice none 0 0], .int .i64 1], ?_, ⟨_, rfl, OwnBs.nil _ _ _, ?_⟩⟩
 · simp at q0 q1 q2 q3 q4 q5 q6
   simp [results, Tryz.f37, go_sem, q0, q1, q2, q3, q4, q5, q6]
 · exact bset (bset (bset (bset (bset (bset (bset hB1 (by omega) _) (by omega) _) (by omega) _) (by omega) _) (by omega) _) (by omega) _) (by omega) _
set_option maxRecDepth 100000 in
set_option maxHeartbeats 4000000 in
theorem of_large (k z m o : Int) (v : Value) (l : List Int) (w : World) (h : IsI w v l) (hmay : mayB k z m o = true) (hl : ¬ l.length ≤ 4096) :
   CallsIn Fence.wide 9 Tryz.prog 37 #[.agg #[.int .i64 k, .int .i64 z, .int .i64 m, .int .i64 o], v] w fun e w' => ∃ x, e = .returned (.tuple #[.agg #[.int .i64 0, .int .i64 0, .int .i64 0, .int .i64 0, .int .i64 0, x], .int .i64 6]) ∧ OwnBs w' w.heap.size w.heap.size x [] ∧ Below w.heap.size w w' := by
 obtain ⟨A, c, rfl, _, _⟩ := id h.form
 have hM := fun n w => (callsIn_wide (n := n)).2 (tmay_any k z m o w)
 rw [hmay] at hM
 have hl1 : decide ((4096 : Int) < (l.length : Int)) = true := decide_eq_true (by omega)
 have hl2 : decide (4096 < l.length) = true := decide_eq_true (by omega)
 have hl3 : (4096 : Int) < (l.length : Int) := by omega
 obtain ⟨W0, hW, hK, hL, hS, hE, hB⟩ := box4t w 23 62 26 42 #[.int .i64 k, .int .i64 z, .int .i64 m, .int .i64 o] #[.slice A l.length c] #[.int .i64 0, .int .i64 0, .int .i64 0, .int .i64 0, .int .i64 0, .slice none 0 0] #[.int .i64 0]
 have hW' := Lib.hid hW
 clear hW
 have k0 := hK.cell 0
 have k1 := hK.cell 1
 have k2 := hK.cell 2
 have k3 := hK.cell 3
 refine callsIn_of_wp_marks Tryz.func37 rfl trivial ?_ rfl
 simp only [Tryz.ntmps37, List.size_toArray, List.length_cons, List.length_nil, Nat.reduceAdd, Nat.reduceSub, Array.replicate_succ, Array.replicate_zero, List.push_toArray, List.append_toArray, List.nil_append, List.cons_append]
 gi_wp2_with fail
 refine ⟨trivial, ?_⟩
 rw [← hW'.out]
 refine (hM _ _).mono ?_
 rintro e w1 ⟨rfl, b1⟩
 have hS1 := hS.below b1 hS.lt
 have hE1 := hE.below b1 hE.lt
 have hL1 := hL.below b1 hL.lt
 have l0 := hL1.cell 0
 have s0 := hS1.cell 0
 have f0 := hS1.frozen 0
 have s1 := hS1.cell 1
 have f1 := hS1.frozen 1
 have s2 := hS1.cell 2
 have f2 := hS1.frozen 2
 have s3 := hS1.cell 3
 have f3 := hS1.frozen 3
 have s4 := hS1.cell 4
 have f4 := hS1.frozen 4
 have s5 := hS1.cell 5
 have f5 := hS1.frozen 5
 have t0 := hE1.cell 0
 have t1 := hE1.frozen 0
 gi_wp2
 have hS8 := ((((((hS1.set_ 0 (.int .i64 0)).set_ 1 (.int .i64 0)).set_ 2 (.int .i64 0)).set_ 3 (.int .i64 0)).set_ 4 (.int .i64 0)).set_ 5 (.slice none 0 0)).far (p := ⟨w.heap.size + 1 + 1 + 1, 0, none⟩) (show w.heap.size + 1 + 1 ≠ w.heap.size + 1 + 1 + 1 by omega) (.int .i64 6)
 have far := fun (w9 : World) (i : Nat) (u : Value) (h9 : Blk w9 (w.heap.size + 1 + 1 + 1) 42 #[.int .i64 0]) => h9.far (p := ⟨w.heap.size + 1 + 1, i, none⟩) (show w.heap.size + 1 + 1 + 1 ≠ w.heap.size + 1 + 1 by omega) u
 have hE8 := (far _ 5 (.slice none 0 0) (far _ 4 (.int .i64 0) (far _ 3 (.int .i64 0) (far _ 2 (.int .i64 0) (far _ 1 (.int .i64 0) (far _ 0 (.int .i64 0) hE1)))))).set_ 0 (.int .i64 6)
 have hB1 := hB.trans (b1.mono hB.size)
 have q0 := hS8.cell 0
 have q1 := hS8.cell 1
 have q2 := hS8.cell 2
 have q3 := hS8.cell 3
 have q4 := hS8.cell 4
 have q5 := hS8.cell 5
 have q6 := hE8.cell 0
 refine ⟨.tuple #[.agg #[.int .i64 0, .int .i64 0, .int .i64 0, .int .i64 0, .int .i64 0, .slice none 0 0], .int .i64 6], ?_, ⟨_, rfl, OwnBs.nil _ _ _, ?_⟩⟩
 · simp at q0 q1 q2 q3 q4 q5 q6
   simp [results, Tryz.f37, go_sem, q0, q1, q2, q3, q4, q5, q6]
 · exact bset (bset (bset (bset (bset (bset (bset hB1 (by omega) _) (by omega) _) (by omega) _) (by omega) _) (by omega) _) (by omega) _) (by omega) _
theorem tof_own (k z m o : Int) (v : Value) (l : List Int) (w : World) (h : IsI w v l) (hi : ∀ x ∈ l, I64 x) :
   Calls Tryz.prog 37 #[.agg #[.int .i64 k, .int .i64 z, .int .i64 m, .int .i64 o], v] w fun e w' => ∃ x, e = .returned (.tuple #[.agg #[.int .i64 (ofS k z m o l).1, .int .i64 (ofS k z m o l).2.1, .int .i64 (ofS k z m o l).2.2.1, .int .i64 (ofS k z m o l).2.2.2.1, .int .i64 (ofS k z m o l).2.2.2.2.1, x], .int .i64 (ofE k z m o l)]) ∧ OwnBs w' w.heap.size w.heap.size x (ofS k z m o l).2.2.2.2.2 ∧ Below w.heap.size w w' := by
 by_cases hmay : mayB k z m o = true
 · by_cases hl : l.length ≤ 4096
   · obtain ⟨Z, rfl, z1, z2⟩ := size_of hmay
     obtain ⟨A, c, rfl, _, _⟩ := id h.form
     exact callsIn_wide.1 (of_main k m o Z A c l w h hmay z1 z2 hl hi)
   · have e : ofE k z m o l = 6 := by unfold ofE; rw [if_pos hmay, if_neg hl]
     have e2 : ofS k z m o l = (0, 0, 0, 0, 0, []) := if_neg (by rw [e]; decide)
     rw [e, e2]
     exact callsIn_wide.1 (of_large k z m o v l w h hmay hl)
 · have e : ofE k z m o l = 1 := by unfold ofE; rw [if_neg hmay]
   have e2 : ofS k z m o l = (0, 0, 0, 0, 0, []) := if_neg (by rw [e]; decide)
   rw [e, e2]
   exact callsIn_wide.1 (of_wrong k z m o v l w h (by simpa using hmay))
theorem tof_any (k z m o : Int) (v : Value) (l : List Int) (w : World) (h : IsI w v l) (hi : ∀ x ∈ l, I64 x) :
   Calls Tryz.prog 37 #[.agg #[.int .i64 k, .int .i64 z, .int .i64 m, .int .i64 o], v] w fun e w' => ∃ s, e = .returned (.tuple #[s, .int .i64 (ofE k z m o l)]) ∧ IsSt w' s (ofS k z m o l) ∧ Below w.heap.size w w' :=
 (tof_own k z m o v l w h hi).mono fun _ _ ⟨_, e, hx, hB⟩ => ⟨_, e, ⟨_, rfl, hx.is⟩, hB⟩
end Go.Proofs.YtdnjdglekifhpaaGreat
namespace Go.Proofs.YtdnjdglekifhpaaGreat
open Go.RowKit
attribute [local go_sem ↓] Go.wp_at_zero Go.wp_at_succ
theorem few_of {k z m o : Int} {l : List Int} (hi : ∀ x ∈ l, I64 x) (h : ofE k z m o l = 0) : FewB (bksTo k z m o l (partN z.toNat l.length)) ∧ LongB (bksTo k z m o l (partN z.toNat l.length)) ∧ (∀ b ∈ bksTo k z m o l (partN z.toNat l.length), LoadB b) := by
 obtain ⟨h1, h2, h3⟩ := ofE_zero h
 obtain ⟨Z, rfl, z1, z2⟩ := size_of h1
 have hN := partN_le (n := l.length) z1
 have hm := of_min h
 have key : ∀ b ∈ bksTo k (Z : Int) m o l (partN (Z : Int).toNat l.length), bkLen b ≤ 4096 ∧ LoadB b := by
   intro b hb
   unfold bksTo at hb
   obtain ⟨i, hi', rfl⟩ := List.mem_map.1 hb
   have hlt := List.mem_range.1 hi'
   have ho := odd_part h3 hlt
   rw [Int.toNat_natCast] at *
   have hpl := partZ_len Z l i
   have hpi : ∀ x ∈ partZ Z l i, I64 x := fun x hx => hi x (partZ_mem hx)
   obtain ⟨g1, g2, g3, g4, g5⟩ := bk_good h1 (n := l.length) (p := partZ Z l i) hpi (by omega) ho
   refine ⟨by rw [g2, hpl]; omega, ?_⟩
   have hgr := great_in hpi (oddP_min ho)
   have hg0 := great_nonneg (partZ Z l i)
   obtain ⟨k0, k3, _⟩ := mayB_iff.1 h1
   rcases kindOf_or (k := k) (m := m) (o := o) l.length (partZ Z l i) with ⟨e, _⟩ | ⟨e, _⟩
   · rw [e]; exact .inl rfl
   · rw [e]
     have hb : bkOf k (partZ Z l i) = (k, great (partZ Z l i), packC k (partZ Z l i), []) := if_neg (by omega)
     rw [hb]
     exact .inr ⟨k0, k3, hg0, hgr⟩
 refine ⟨⟨?_, fun b hb => by have := (key b hb).1; omega⟩, fun b hb => ?_, fun b hb => (key b hb).2⟩
 · rw [bksTo_len, Int.toNat_natCast]; omega
 · have := (key b hb).1
   unfold bkLen at this
   omega
end Go.Proofs.YtdnjdglekifhpaaGreat
namespace Go.Proofs.YtdnjdglekifhpaaGreat
def NearTo (l m : List Int) (q : List Rat) : Prop := m.length = l.length ∧ q.length = l.length ∧ ∀ (i : Nat) (x y : Int) (b : Rat), l[i]? = some x → m[i]? = some y → q[i]? = some b → 0 ≤ b ∧ ((y : Rat) - x ≤ b ∧ (x : Rat) - y ≤ b)
theorem NearTo.nil : NearTo [] [] [] := ⟨rfl, rfl, fun _ _ _ _ h => by simp at h⟩
theorem NearTo.append {l l' m m' : List Int} {q q' : List Rat} (h : NearTo l m q) (h' : NearTo l' m' q') : NearTo (l ++ l') (m ++ m') (q ++ q') := by
 obtain ⟨a1, a2, a3⟩ := h
 obtain ⟨b1, b2, b3⟩ := h'
 refine ⟨by simp [a1, b1], by simp [a2, b2], fun i x y b h1 h2 h3 => ?_⟩
 rcases Nat.lt_or_ge i l.length with hi | hi
 · rw [List.getElem?_append_left hi] at h1
   rw [List.getElem?_append_left (by omega)] at h2 h3
   exact a3 i x y b h1 h2 h3
 · rw [List.getElem?_append_right hi] at h1
   rw [List.getElem?_append_right (by omega)] at h2 h3
   rw [a1] at h2
   rw [a2] at h3
   exact b3 _ x y b h1 h2 h3
theorem mk_mul_nat (z : Int) {d : Nat} (hd : 0 < d) : mkRat z d * ((d : Nat) : Rat) = (z : Rat) := by
 rw [Rat.mkRat_eq_div, Rat.div_mul_cancel]
 intro e
 have : (((d : Nat) : Int) : Rat) = ((0 : Int) : Rat) := e
 rw [Rat.intCast_inj] at this
 omega
theorem near_bound {n : Nat} (hn : n < 4) {l : List Int} (ho : l.any (oddB (sgn (n : Nat))) = false) {x : Int} (hx : x ∈ l) :
   0 ≤ boundQ (n : Nat) (great l) ∧ (((loadZ n (great l) (codeOf n x (max (great l) 1)) : Int) : Rat) - x ≤ boundQ (n : Nat) (great l) ∧ (x : Rat) - ((loadZ n (great l) (codeOf n x (max (great l) 1)) : Int) : Rat) ≤ boundQ (n : Nat) (great l)) := by
 have hk := near_loaded hn ho hx
 have hd := (den_in (k := (n : Nat)) (by omega) (by omega)).1
 have hg0 := (gz_in (k := (n : Nat)) (by omega) (by omega)).1
 have hgr := great_nonneg l
 have e4 : ((n : Nat) : Int) ≠ 4 := by omega
 have eb : boundQ (n : Nat) (great l) * ((2 * den (n : Nat) : Int) : Rat) = ((great l * gz (n : Nat) + den (n : Nat) : Int) : Rat) := by
   unfold boundQ
   rw [if_neg e4]
   have p1 := mk_mul_nat (gz (n : Nat)) (d := (2 * den (n : Nat)).natAbs) (by omega)
   have p2 := mk_mul_nat 1 (d := 2) (by omega)
   have p3 : (((2 * den (n : Nat)).natAbs : Nat) : Rat) = ((2 * den (n : Nat) : Int) : Rat) := by
     have h : (((2 * den (n : Nat)).natAbs : Nat) : Int) = 2 * den (n : Nat) := by omega
     rw [← h]; rfl
   rw [p3] at p1
   have p4 : ((2 : Nat) : Rat) = 2 := rfl
   have p5 : ((2 : Int) : Rat) = 2 := rfl
   have p6 : ((1 : Int) : Rat) = 1 := rfl
   rw [p4, p6] at p2
   rw [Rat.intCast_mul, p5] at p1
   rw [Rat.intCast_add, Rat.intCast_mul, Rat.intCast_mul, p5]
   generalize mkRat (gz (n : Nat)) (2 * den (n : Nat)).natAbs = u at *
   generalize mkRat 1 2 = v at *
   generalize ((den (n : Nat) : Int) : Rat) = D at *
   generalize ((gz (n : Nat) : Int) : Rat) = G at *
   generalize ((great l : Int) : Rat) = S at *
   grind
 generalize loadZ n (great l) (codeOf n x (max (great l) 1)) = y at *
 generalize boundQ (n : Nat) (great l) = b at *
 generalize den (n : Nat) = D at *
 generalize gz (n : Nat) = G at *
 generalize great l = S at *
 have hD : (0 : Rat) < ((2 * D : Int) : Rat) := by
   have h : ((0 : Int) : Rat) < ((2 * D : Int) : Rat) := by rw [Rat.intCast_lt_intCast]; omega
   exact h
 have key : ∀ u : Int, u * (2 * D) ≤ S * G + D → (u : Rat) ≤ b := by
   intro u hu
   refine Rat.le_of_mul_le_mul_right ?_ hD
   rw [eb, ← Rat.intCast_mul, Rat.intCast_le_intCast]
   exact hu
 have hSG : 0 ≤ S * G := Int.mul_nonneg hgr (by omega)
 have ha : ∀ u : Int, u ≤ (((x - y).natAbs : Nat) : Int) → u * (2 * D) ≤ S * G + D := by
   intro u hu
   exact Int.le_trans (Int.mul_le_mul_of_nonneg_right hu (by omega)) hk
 refine ⟨?_, ?_, ?_⟩
 · have := key 0 (by omega)
   exact this
 · have := key (y - x) (ha _ (by omega))
   rw [Rat.intCast_sub] at this
   exact this
 · have := key (x - y) (ha _ (by omega))
   rw [Rat.intCast_sub] at this
   exact this
theorem near_block {k m o : Int} {n : Nat} {p : List Int} {kn : Nat} (hkn : k = kn) (hk4 : kn < 4) (ho : oddP (kindOf k m o n p) p = false) :
   NearTo p (bkNums (bkOf (kindOf k m o n p) p)) (rowQ (bkOf (kindOf k m o n p) p)) := by
 subst hkn
 rcases kindOf_or (k := (kn : Int)) (m := m) (o := o) n p with ⟨e, _⟩ | ⟨e, _⟩
 · rw [e]
   have hb : bkOf 4 p = (4, 0, [], p) := if_pos rfl
   rw [hb]
   have e1 : bkNums (4, 0, [], p) = p := if_pos rfl
   have e2 : rowQ (4, 0, [], p) = List.replicate p.length (0 : Rat) := by
     unfold rowQ bkLen
     simp only [List.length_nil, Nat.zero_add]
     rw [show boundQ 4 0 = 0 from if_pos rfl]
   rw [e1, e2]
   refine ⟨rfl, by simp, fun i x y b h1 h2 h3 => ?_⟩
   rw [h1] at h2
   cases h2
   have hi := (List.getElem?_eq_some_iff.1 h3).1
   rw [List.getElem?_replicate] at h3
   split at h3
   · cases h3
     refine ⟨Rat.le_refl, ?_, ?_⟩ <;> grind
   · cases h3
 · rw [e]
   have hb : bkOf (kn : Int) p = ((kn : Int), great p, packC (kn : Int) p, []) := if_neg (by omega)
   rw [hb]
   rw [e] at ho
   have ho' : p.any (oddB (sgn (kn : Nat))) = false := by
     unfold oddP at ho
     rw [show (((kn : Nat) : Int) == 4) = false by simp; omega, Bool.false_or] at ho
     exact ho
   have e1 : bkNums ((kn : Int), great p, packC (kn : Int) p, []) = loadC kn (great p) (packC (kn : Int) p) := by
     unfold bkNums
     simp only
     rw [if_neg (by omega), Int.toNat_natCast]
   have e2 : rowQ ((kn : Int), great p, packC (kn : Int) p, []) = List.replicate p.length (boundQ (kn : Int) (great p)) := by
     unfold rowQ bkLen packC
     simp
   rw [e1, e2]
   refine ⟨by simp [loadC, packC], by simp, fun i x y b h1 h2 h3 => ?_⟩
   rw [List.getElem?_replicate] at h3
   split at h3
   · cases h3
     unfold loadC packC at h2
     rw [List.getElem?_map, List.getElem?_map, h1] at h2
     cases h2
     exact near_bound hk4 ho' (List.mem_of_getElem? h1)
   · cases h3
theorem near_parts {k m o : Int} {l : List Int} {Z kn : Nat} (hkn : k = kn) (hk4 : kn < 4) : ∀ N, (∀ i, i < N → oddP (kindOf k m o l.length (partZ Z l i)) (partZ Z l i) = false) →
   NearTo (l.take (N * Z)) (loadS (bksTo k (Z : Int) m o l N)) (quantS (bksTo k (Z : Int) m o l N))
 | 0, _ => by simpa [bksTo, loadS, quantS] using NearTo.nil
 | N + 1, h => by
   have ih := near_parts hkn hk4 N fun i hi => h i (by omega)
   have hb := near_block hkn hk4 (h N (by omega))
   rw [bksTo_succ, quantS_snoc]
   unfold loadS at *
   rw [List.flatMap_append, List.flatMap_cons, List.flatMap_nil, List.append_nil, Int.toNat_natCast]
   have e : l.take ((N + 1) * Z) = l.take (N * Z) ++ partZ Z l N := by
     unfold partZ
     rw [Nat.add_mul, Nat.one_mul, List.take_add]
   rw [e]
   exact ih.append hb
theorem near_all {k z m o : Int} {l : List Int} (h : ofE k z m o l = 0) :
   NearTo l (loadS (bksTo k z m o l (partN z.toNat l.length))) (quantS (bksTo k z m o l (partN z.toNat l.length))) := by
 obtain ⟨h1, h2, h3⟩ := ofE_zero h
 obtain ⟨Z, rfl, z1, z2⟩ := size_of h1
 obtain ⟨kn, hkn, hk4⟩ := toNat_kind h1
 have hp := fun i (hi : i < partN (Z : Int).toNat l.length) => odd_part h3 hi
 simp only [Int.toNat_natCast] at *
 have := near_parts hkn hk4 (partN Z l.length) hp
 rwa [List.take_of_length_le (partN_all z1)] at this
theorem steps_zero (n x : Int) (b : Rat) (h : (n : Rat) - x ≤ b ∧ (x : Rat) - n ≤ b) : stepsQ n 0 (x : Rat) ≤ b := by
 rw [steps_le]
 have e : ∀ u : Int, mkRat u (2 ^ 0) = (u : Rat) := fun u => by
   rw [Nat.pow_zero]
   rw [Rat.mkRat_eq_div]
   show (u : Rat) / 1 = u
   grind
 rw [e, e]
 have p6 : ((1 : Int) : Rat) = 1 := rfl
 rw [p6, Rat.mul_one]
 exact h
theorem sz_bound {b : Bk} (h : LoadB b) : BQ (boundQ b.1 b.2.1) 20 := by
 obtain ⟨k, s, cs, wd⟩ := b
 unfold LoadB at h
 simp only at *
 unfold boundQ
 split
 · exact (BQ.int (n := 0) (by unfold W64; omega)).more (by omega)
 · rename_i h4
   obtain ⟨k0, k3, s0, s1⟩ := h.resolve_left h4
   have hd := den_in k0 k3
   have hg := gz_in k0 k3
   have b1 := BQ.int (n := s) (by unfold W64; omega)
   have b2 : BQ (mkRat (gz k) (2 * den k).natAbs) 1 := BQ.mk (Sz.u64 (by unfold W64; omega)) (Sz.u64 (by unfold W64; omega)) (by omega)
   have b3 : BQ (mkRat 1 2) 1 := BQ.mk Sz.one (Sz.u64 (by unfold W64; omega)) (by omega)
   exact ((b1.mul b2).add b3).more (by omega)
theorem sz_quant {bs : List Bk} (h : ∀ b ∈ bs, LoadB b) {q : Rat} (hq : q ∈ quantS bs) : BQ q 20 := by
 unfold quantS at hq
 obtain ⟨b, hb, hq⟩ := List.mem_flatMap.1 hq
 unfold rowQ at hq
 obtain ⟨_, rfl⟩ := List.mem_replicate.1 hq
 exact sz_bound (h b hb)
theorem sz_steps {n : Int} {k m : Nat} {r : Rat} (hn : In64 n) (hk : k ≤ 40) (sr : BQ r m) : BQ (stepsQ n k r) (2 * m + 130) := by
 unfold stepsQ divQ
 have sn := sz_man hn hk
 have h1 : In64 1 := ⟨by omega, by omega⟩
 have st := sz_man h1 hk
 have sd : BQ (mkRat n (2 ^ k) - r) (2 * (41 + m) + 1) := by rw [Rat.sub_eq_add_neg]; exact sn.add sr.neg
 have sd2 := sd.abs
 rw [decide_eq_false (by rw [num_neg_iff, Rat.not_lt]; exact Rat.le_of_lt (stepP k).1)]
 have hs : sided false (mkRat 1 (2 ^ k)).den = ((mkRat 1 (2 ^ k)).den : Int) := by simp [sided]
 rw [hs]
 exact BQ.mk ((sd2.1.imul (b := ((mkRat 1 (2 ^ k)).den : Int)) (by simpa using st.2)).more (by omega)) ((sd2.2.mul st.1).more (by omega)) (by omega)
theorem NearTo.at_ {l m : List Int} {q : List Rat} (h : NearTo l m q) {i : Nat} (hi : i < l.length) : ∃ h2 : i < q.length, 0 ≤ q[i] ∧ stepsQ (iat m i) 0 (iat l i : Rat) ≤ q[i] := by
 obtain ⟨h1, h2, h3⟩ := h
 have hq : i < q.length := by omega
 have e : ∀ (a : List Int), i < a.length → a[i]? = some (iat a i) := fun a ha => by unfold iat; rw [List.getElem?_eq_getElem ha]; rfl
 obtain ⟨k1, k2⟩ := h3 i _ _ _ (e l hi) (e m (by omega)) (List.getElem?_eq_getElem hq)
 exact ⟨hq, k1, steps_zero _ _ _ k2⟩
theorem load_in {k z m o : Int} {l : List Int} (hi : ∀ x ∈ l, I64 x) (h : ofE k z m o l = 0) {x : Int} (hx : x ∈ loadS (ofS k z m o l).2.2.2.2.2) : I64 x := by
 have h1 := great_in hi (of_min h)
 have h2 := load_great_of hi h
 have h3 := great_mem hx
 unfold I64
 omega
end Go.Proofs.YtdnjdglekifhpaaGreat
namespace Go.Proofs.YtdnjdglekifhpaaGreat
open Go.RowKit
attribute [local go_sem ↓] Go.wp_at_zero Go.wp_at_succ
set_option maxRecDepth 100000 in
set_option maxHeartbeats 8000000 in
theorem kept_no (k z m o : Int) (A : Option Addr) (C : Nat) (l : List Int) (w : World) (h : IsI w (.slice A l.length C) l) (hi : ∀ x ∈ l, I64 x) (he : ofE k z m o l = 1) :
   Calls Tryz.prog 45 #[.agg #[.int .i64 k, .int .i64 z, .int .i64 m, .int .i64 o], .slice A l.length C] w fun e w' => e = .returned (.tuple #[.slice none 0 0, .slice none 0 0, .bool false]) ∧ Below w.heap.size w w' := by
 have hO := fun w h => tof_any k z m o (.slice A l.length C) l w h hi
 have e2 : ofS k z m o l = (0, 0, 0, 0, 0, []) := if_neg (by rw [he]; decide)
 rw [he, e2] at hO
 clear he e2
 obtain ⟨g, hg⟩ : ∃ g, g = w.heap.size := ⟨_, rfl⟩
 obtain ⟨Y0, eY0, hKp, bY0⟩ := box1 w 23 #[.int .i64 k, .int .i64 z, .int .i64 m, .int .i64 o]
 have zY0 : Y0.heap.size = g + 1 := by rw [eY0, World.size_alloc, ← hg]
 rw [← hg] at hKp
 replace h := h.below bY0
 have hB := bY0
 have hgw : w.heap.size ≤ g := by omega
 have EY := Lib.hid (And.intro hg eY0)
 clear hg eY0 zY0
 obtain ⟨c0, c1, c2, c3⟩ := hKp.q4
 go_enter Tryz.func45, Tryz.ntmps45
 go_wp2_with fail
 rw [← EY.out.2, ← EY.out.1]
 refine (hO _ h).mono ?_
 rintro e w2 ⟨s, rfl, ⟨x, rfl, hbs⟩, b2⟩
 replace h := h.below b2
 replace hKp := hKp.below b2 hKp.lt
 replace hB := hB.trans (b2.mono hB.size)
 clear c0 c1 c2 c3
 obtain ⟨c4, c5, c6, c7⟩ := hKp.q4
 obtain ⟨A1, C1, rfl, _, _⟩ := id hbs.len
 obtain ⟨V4, eV, hS, bV4⟩ := box1 w2 26 #[.int .i64 0, .int .i64 0, .int .i64 0, .int .i64 0, .int .i64 0, .slice A1 0 C1]
 obtain ⟨X4, eX⟩ : ∃ X, X = w2.heap.size := ⟨_, rfl⟩
 rw [← eX] at hS
 have lX4 : w.heap.size ≤ X4 := by rw [eX]; exact hB.size
 have dX4_hKp : g ≠ X4 := by have := hKp.lt; omega
 have EV4 := Lib.hid (And.intro eV eX)
 clear eV eX
 go_upto_region 2 with fail
 rw [← EV4.out.1, ← EV4.out.2]
 replace h := h.below bV4
 replace hKp := hKp.below bV4 hKp.lt
 replace hbs := hbs.below bV4
 replace hB := hB.trans (bV4.mono hB.size)
 clear c4 c5 c6 c7
 obtain ⟨c8, c9, c10, c11⟩ := hKp.q4
 obtain ⟨c12, c13, c14, c15, c16, c17⟩ := hS.q6
 go_wp2
 exact bodyPost_ret (v := .tuple #[.slice none 0 0, .slice none 0 0, .bool false]) (by simp [results, Tryz.results45, go_sem]) rfl ⟨rfl, hB⟩
set_option maxRecDepth 100000 in
set_option maxHeartbeats 8000000 in
theorem kept_yes (k z m o : Int) (A : Option Addr) (C : Nat) (l : List Int) (w : World) (h : IsI w (.slice A l.length C) l) (hi : ∀ x ∈ l, I64 x) (hn : l.length ≤ 4000) (he : ofE k z m o l = 0) :
   Calls Tryz.prog 45 #[.agg #[.int .i64 k, .int .i64 z, .int .i64 m, .int .i64 o], .slice A l.length C] w fun e w' => ∃ vm vq, e = .returned (.tuple #[vm, vq, .bool true]) ∧ w'.ownsRow w.heap.size 2 1 vm (loadS (bksTo k z m o l (partN z.toNat l.length))).length (is (loadS (bksTo k z m o l (partN z.toNat l.length)))) ∧ OwnQs w' w.heap.size vq (quantS (bksTo k z m o l (partN z.toNat l.length))) ∧ Below w.heap.size w w' := by
 have hO := fun w h => tof_any k z m o (.slice A l.length C) l w h hi
 have e2 : ofS k z m o l = (k, z, m, o, (l.length : Int), bksTo k z m o l (partN z.toNat l.length)) := if_pos he
 rw [he, e2] at hO
 obtain ⟨hfb, hlb, hld⟩ := few_of hi he
 have hnear := near_all he
 generalize bksTo k z m o l (partN z.toNat l.length) = bs at *
 have hqn := quantS_len bs
 have hq1 := hnear.2.1
 have hm1 := hnear.1
 have hQu : ∀ v w0, IsSt w0 v (k, z, m, o, (l.length : Int), bs) → w.heap.size ≤ w0.heap.size → Calls Tryz.prog 15 #[v] w0 fun e w' => ∃ v', e = .returned v' ∧ OwnQs w' w.heap.size v' (quantS bs) ∧ Below w0.heap.size w0 w' := fun v w0 h hz =>
   (quant_own v (k, z, m, o, (l.length : Int), bs) w0 h hfb (by simp only; omega) hld).mono fun _ _ ⟨v', e, ho, hb⟩ => ⟨v', e, ho.lower hz, hb⟩
 have hLd : ∀ v w0, IsSt w0 v (k, z, m, o, (l.length : Int), bs) → w.heap.size ≤ w0.heap.size → Calls Tryz.prog 38 #[v] w0 fun e w' => ∃ v', e = .returned v' ∧ w'.ownsRow w.heap.size 2 1 v' (loadS bs).length (is (loadS bs)) ∧ Below w0.heap.size w0 w' := fun v w0 h hz =>
   (tload_own v (k, z, m, o, (l.length : Int), bs) w0 h hfb hld).mono fun _ _ ⟨v', e, ho, hb⟩ => ⟨v', e, own_lower ho hz, hb⟩
 generalize quantS bs = qs at *
 generalize loadS bs = ms at *
 rw [hm1] at hLd ⊢
 clear he e2 hfb hlb hld hqn hnear
 obtain ⟨g, hg⟩ : ∃ g, g = w.heap.size := ⟨_, rfl⟩
 obtain ⟨Y0, eY0, hKp, bY0⟩ := box1 w 23 #[.int .i64 k, .int .i64 z, .int .i64 m, .int .i64 o]
 have zY0 : Y0.heap.size = g + 1 := by rw [eY0, World.size_alloc, ← hg]
 rw [← hg] at hKp
 replace h := h.below bY0
 have hB := bY0
 have hgw : w.heap.size ≤ g := by omega
 have EY := Lib.hid (And.intro hg eY0)
 clear hg eY0 zY0
 obtain ⟨c0, c1, c2, c3⟩ := hKp.q4
 go_enter Tryz.func45, Tryz.ntmps45
 go_wp2_with fail
 rw [← EY.out.2, ← EY.out.1]
 refine (hO _ h).mono ?_
 rintro e w2 ⟨s, rfl, ⟨x, rfl, hbs⟩, b2⟩
 replace h := h.below b2
 replace hKp := hKp.below b2 hKp.lt
 replace hB := hB.trans (b2.mono hB.size)
 clear c0 c1 c2 c3
 obtain ⟨c4, c5, c6, c7⟩ := hKp.q4
 simp only at hbs
 obtain ⟨A1, C1, rfl, _, _⟩ := id hbs.len
 have hst : IsSt w2 (.agg #[.int .i64 k, .int .i64 z, .int .i64 m, .int .i64 o, .int .i64 (l.length : Int), .slice A1 bs.length C1]) (k, z, m, o, (l.length : Int), bs) := ⟨_, rfl, hbs⟩
 obtain ⟨V4, eV, hS, bV4⟩ := box1 w2 26 #[.int .i64 k, .int .i64 z, .int .i64 m, .int .i64 o, .int .i64 (l.length : Int), .slice A1 bs.length C1]
 obtain ⟨X4, eX⟩ : ∃ X, X = w2.heap.size := ⟨_, rfl⟩
 rw [← eX] at hS
 have lX4 : w.heap.size ≤ X4 := by rw [eX]; exact hB.size
 have dX4_hKp : g ≠ X4 := by have := hKp.lt; omega
 have EV4 := Lib.hid (And.intro eV eX)
 clear eV eX
 go_upto_region 2 with fail
 rw [← EV4.out.1, ← EV4.out.2]
 replace h := h.below bV4
 replace hKp := hKp.below bV4 hKp.lt
 replace hst := hst.below bV4
 replace hB := hB.trans (bV4.mono hB.size)
 clear c4 c5 c6 c7
 obtain ⟨c8, c9, c10, c11⟩ := hKp.q4
 obtain ⟨c12, c13, c14, c15, c16, c17⟩ := hS.q6
 go_upto_region 4 with fail
 replace hB := hB.drew
 replace h := h.below (bdrew _)
 replace hKp := hKp.drew
 replace hst := hst.below (bdrew _)
 replace hS := hS.drew
 clear c8 c9 c10 c11 c12 c13 c14 c15 c16 c17
 refine wp_region_noPanic ?_
 refine wp_region_held_drew (S := fun w' => w'.cell? ⟨X4, 0, none⟩ = some (.int .i64 k) ∧ w'.cell? ⟨X4, 1, none⟩ = some (.int .i64 z) ∧ w'.cell? ⟨X4, 2, none⟩ = some (.int .i64 m) ∧ w'.cell? ⟨X4, 3, none⟩ = some (.int .i64 o) ∧ w'.cell? ⟨X4, 4, none⟩ = some (.int .i64 (l.length : Int)) ∧ w'.cell? ⟨X4, 5, none⟩ = some (.slice A1 bs.length C1)) (by kernel_rfl) ?_ (fun hHeld => ?_)
 · exact ⟨hS.cell 0, hS.cell 1, hS.cell 2, hS.cell 3, hS.cell 4, hS.cell 5⟩
 obtain ⟨wd4_1, hwd⟩ : ∃ q, q = V4.drew := ⟨_, rfl⟩
 rw [← hwd] at hB h hKp hst hS hHeld ⊢
 clear hwd
 refine tkH 0 rfl (v := ?v1) ?h1 ?r1
 case h1 => intro w hSw; (try dsimp only at hSw); go_simp; try (with_reducible rfl)
 refine tkH 2 rfl (v := ?v2) ?h2 ?r2
 case h2 => intro w hSw; (try dsimp only at hSw); go_simp; try (with_reducible rfl)
 try simp only [Act.put, lay1, lay2, lay3, lay4, lay5, lay6]
 refine wpAnyH_ready (rs := [1]) (by kernel_rfl) (by simp) (AllReadyH.cons rfl (fun K hK => ?_) AllReadyH.nil)
 go_simp
 refine (hLd _ _ hst hB.size).mono ?_
 rintro e u4_1 ⟨v5, rfl, h5, b4_1⟩
 replace h := h.below b4_1
 replace hKp := hKp.below b4_1 hKp.lt
 replace hst := hst.below b4_1
 replace hS := hS.below b4_1 hS.lt
 replace hB := hB.trans (b4_1.mono hB.size)
 obtain ⟨A5, C5, rfl, _, _, _⟩ := own_form h5
 go_wp2_with fail
 refine hK.out _ _ ?_ (fun hHeld => ?_)
 · exact ⟨hS.cell 0, hS.cell 1, hS.cell 2, hS.cell 3, hS.cell 4, hS.cell 5⟩
 clear hK K
 try simp only [Act.put, lay1, lay2, lay3, lay4, lay5, lay6]
 refine wpAnyH_ready (rs := [3]) (by kernel_rfl) (by simp) (AllReadyH.cons rfl (fun K hK => ?_) AllReadyH.nil)
 go_simp
 refine (hQu _ _ hst hB.size).mono ?_
 rintro e u4_2 ⟨v6, rfl, h6, b4_2⟩
 replace h := h.below b4_2
 replace hKp := hKp.below b4_2 hKp.lt
 replace hst := hst.below b4_2
 replace hS := hS.below b4_2 hS.lt
 replace hB := hB.trans (b4_2.mono hB.size)
 replace h5 := own_below h5 b4_2
 obtain ⟨A6, C6, e6, _, _⟩ := id h6.is.len
 rw [hq1] at e6
 subst e6
 go_wp2_with fail
 refine hK.out _ _ ?_ (fun hHeld => ?_)
 · exact ⟨hS.cell 0, hS.cell 1, hS.cell 2, hS.cell 3, hS.cell 4, hS.cell 5⟩
 clear hK K
 refine tkH 4 rfl (v := ?v3) ?h3 ?r3
 case h3 => intro w hSw; (try dsimp only at hSw); go_simp; try (with_reducible rfl)
 refine tkH 5 rfl (v := ?v4) ?h4 ?r4
 case h4 => intro w hSw; (try dsimp only at hSw); go_simp; try (with_reducible rfl)
 try simp only [Act.put, lay1, lay2, lay3, lay4, lay5, lay6]
 try dsimp only
 try simp only [Act.put, lay1, lay2, lay3, lay4, lay5, lay6]
 refine wpAnyH_done (by kernel_rfl) ?_ _
 refine NoPanic.normal ?_
 skip
 obtain ⟨c18, c19, c20, c21⟩ := hKp.q4
 obtain ⟨c22, c23, c24, c25, c26, c27⟩ := hS.q6
 go_wp2
 exact bodyPost_ret (v := .tuple #[.slice A5 l.length C5, .slice A6 l.length C6, .bool true]) (by simp [results, Tryz.results45, go_sem]) rfl ⟨_, _, rfl, h5, h6, hB⟩
end Go.Proofs.YtdnjdglekifhpaaGreat
namespace Go.Proofs.YtdnjdglekifhpaaGreat
open Go.RowKit
def Rk (w : World) (r : Nat) (f e : Int) : Prop := w.heap[r]? = some (.cells #[.int .i64 f, .int .i64 e] 185 (0, 0))
section
variable {w w' : World} {r : Nat} {f e : Int}
theorem Rk.lt (h : Rk w r f e) : r < w.heap.size := by
 rcases Nat.lt_or_ge r w.heap.size with hlt | hge
 · exact hlt
 · unfold Rk at h; rw [Array.getElem?_eq_none hge] at h; cases h
theorem Rk.cell0 (h : Rk w r f e) : w.cell? ⟨r, 0, none⟩ = some (.int .i64 f) := cell_of_row w r 0 _ _ _ h
theorem Rk.cell1 (h : Rk w r f e) : w.cell? ⟨r, 1, none⟩ = some (.int .i64 e) := cell_of_row w r 1 _ _ _ h
theorem Rk.free0 (h : Rk w r f e) (i : Nat) : w.frozen? ⟨r, i, none⟩ = false := by unfold Rk at h; simp [World.frozen?, h]
theorem Rk.below (h : Rk w r f e) (hb : Below w.heap.size w w') : Rk w' r f e := (hb.block r h.lt).trans h
theorem Rk.set_ (h : Rk w r f e) (x : Int) : Rk (w.setCell ⟨r, 1, none⟩ (.int .i64 x)) r f x := by
 unfold Rk at h ⊢
 simp [World.setCell, Array.getElem?_modify, h]
theorem Rk.alloc (h : Rk w r f e) (o : Obj) : Rk (w.alloc o) r f e := (Below.heap_alloc w o r h.lt).trans h
end
theorem only_refl (w : World) (row : Option Nat) : w.grownBy w row := World.grownBy.refl w row
theorem only_setCell {a w : World} {g : Nat} (h : a.grownBy w (some g)) {p : Addr} (hp : p.block = g ∨ a.heap.size ≤ p.block) (u : Value) : a.grownBy (w.setCell p u) (some g) :=
 ⟨h.os, h.tape, h.output, by simpa [World.setCell] using h.size, fun i hi hne => (Below.heap_setCell w p u i (by
   rintro rfl
   rcases hp with hp | hp
   · exact hne (by rw [hp])
   · omega)).trans (h.block i hi hne)⟩
theorem only_of_below {a w : World} (h : Below a.heap.size a w) (row : Option Nat) : a.grownBy w row := ⟨h.os, h.tape, h.output, h.size, fun i hi _ => h.block i hi⟩
theorem only_trans {a b c : World} {row : Option Nat} (h : a.grownBy b row) (k : b.grownBy c row) : a.grownBy c row :=
 ⟨k.os.trans h.os, k.tape.trans h.tape, k.output.trans h.output, Nat.le_trans h.size k.size, fun i hi hn => (k.block i (Nat.lt_of_lt_of_le hi h.size) hn).trans (h.block i hi hn)⟩
set_option maxHeartbeats 1000000 in
theorem kept_any (r : Nat) (f e n x : Int) (w : World) (h : Rk w r f e) :
   Calls Tryz.prog 238 #[.pointer (some ⟨r, 0, none⟩), .int .i64 n, .int .i64 x] w fun a w' => a = .returned (.int .i64 n) ∧ Rk w' r f (joinE e x) ∧ w.grownBy w' (some r) := by
 have c1 := h.cell1
 have z1 := h.free0 1
 by_cases he : e = 0
 · subst he
   rw [show joinE 0 x = x from rfl]
   go_enter Tryz.func238, Tryz.ntmps238
   go_wp2
   go_ret
   exact ⟨rfl, h.set_ x, only_setCell (only_refl w _) (.inl rfl) _⟩
 · rw [show joinE e x = e from if_neg he]
   have hd : (e == 0) = false := by simpa using he
   have He := Lib.hid he
   clear he
   go_enter Tryz.func238, Tryz.ntmps238
   go_wp2
   go_ret
   exact ⟨rfl, h, only_refl w _⟩
set_option maxHeartbeats 1000000 in
theorem kmul_any (r : Nat) (f : Nat) (e a b : Int) (w : World) (hf : f ≤ 40) (ha : In64 a) (hb : In64 b) (h : Rk w r f e) :
   Calls Tryz.prog 213 #[.pointer (some ⟨r, 0, none⟩), .int .i64 a, .int .i64 b] w fun x w' => x = .returned (.int .i64 (fitV (mulZ a b f))) ∧ Rk w' r f (joinE e (fitE (mulZ a b f))) ∧ w.grownBy w' (some r) := by
 have c0 := h.cell0
 have hM := fun w => fmul_any a b f hf ha.1 ha.2 hb.1 hb.2 w
 generalize mulZ a b f = z at *
 clear ha hb hf
 go_enter Tryz.func213, Tryz.ntmps213
 go_wp2_with fail
 refine (hM _).mono ?_
 rintro y w1 ⟨rfl, b1⟩
 have h1 := h.below b1
 go_wp2_with fail
 refine (kept_any r f e (fitV z) (fitE z) w1 h1).mono ?_
 rintro y w2 ⟨rfl, h2, g2⟩
 go_wp2
 go_ret
 exact ⟨rfl, h2, only_trans (only_of_below b1 _) g2⟩
set_option maxHeartbeats 1000000 in
theorem kadd_any (r : Nat) (f e a b : Int) (w : World) (ha : In64 a) (hb : In64 b) (h : Rk w r f e) :
   Calls Tryz.prog 212 #[.pointer (some ⟨r, 0, none⟩), .int .i64 a, .int .i64 b] w fun x w' => x = .returned (.int .i64 (fitV (a + b))) ∧ Rk w' r f (joinE e (fitE (a + b))) ∧ w.grownBy w' (some r) := by
 have hM := fun w => fadd_any a b ha.1 ha.2 hb.1 hb.2 w
 generalize a + b = z at *
 clear ha hb
 go_enter Tryz.func212, Tryz.ntmps212
 go_wp2_with fail
 refine (hM _).mono ?_
 rintro y w1 ⟨rfl, rfl⟩
 go_wp2_with fail
 refine (kept_any r f e (fitV z) (fitE z) _ h).mono ?_
 rintro y w2 ⟨rfl, h2, g2⟩
 go_wp2
 go_ret
 exact ⟨rfl, h2, g2⟩
set_option maxHeartbeats 1000000 in
theorem ksub_any (r : Nat) (f e a b : Int) (w : World) (ha : In64 a) (hb : In64 b) (h : Rk w r f e) :
   Calls Tryz.prog 214 #[.pointer (some ⟨r, 0, none⟩), .int .i64 a, .int .i64 b] w fun x w' => x = .returned (.int .i64 (fitV (a - b))) ∧ Rk w' r f (joinE e (fitE (a - b))) ∧ w.grownBy w' (some r) := by
 have hM := fun w => fsub_any a b ha.1 ha.2 hb.1 hb.2 w
 generalize a - b = z at *
 clear ha hb
 go_enter Tryz.func214, Tryz.ntmps214
 go_wp2_with fail
 refine (hM _).mono ?_
 rintro y w1 ⟨rfl, rfl⟩
 go_wp2_with fail
 refine (kept_any r f e (fitV z) (fitE z) _ h).mono ?_
 rintro y w2 ⟨rfl, h2, g2⟩
 go_wp2
 go_ret
 exact ⟨rfl, h2, g2⟩
end Go.Proofs.YtdnjdglekifhpaaGreat
namespace Go.Proofs.YtdnjdglekifhpaaGreat
open Go.RowKit
attribute [local go_sem ↓] Go.wp_at_zero Go.wp_at_succ
def Wk (w : World) (G r : Nat) (lr mu wd : Int) (nest : Bool) : Prop := w.heap[G]? = some (.cells #[.pointer (some ⟨r, 0, none⟩), .int .i64 lr, .int .i64 mu, .int .i64 wd, .bool nest] 187 (0, 0))
section
variable {w w' : World} {G r : Nat} {lr mu wd : Int} {nest : Bool}
theorem Wk.lt (h : Wk w G r lr mu wd nest) : G < w.heap.size := by
 rcases Nat.lt_or_ge G w.heap.size with hlt | hge
 · exact hlt
 · unfold Wk at h; rw [Array.getElem?_eq_none hge] at h; cases h
theorem Wk.cells (h : Wk w G r lr mu wd nest) : w.cell? ⟨G, 0, none⟩ = some (.pointer (some ⟨r, 0, none⟩)) ∧ w.cell? ⟨G, 1, none⟩ = some (.int .i64 lr) ∧ w.cell? ⟨G, 2, none⟩ = some (.int .i64 mu) ∧ w.cell? ⟨G, 3, none⟩ = some (.int .i64 wd) :=
 ⟨cell_of_row w G 0 _ _ _ h, cell_of_row w G 1 _ _ _ h, cell_of_row w G 2 _ _ _ h, cell_of_row w G 3 _ _ _ h⟩
theorem Wk.nest_ (h : Wk w G r lr mu wd nest) : w.cell? ⟨G, 4, none⟩ = some (.bool nest) := cell_of_row w G 4 _ _ _ h
theorem Wk.only (h : Wk w G r lr mu wd nest) (hg : w.grownBy w' (some r)) (hne : G ≠ r) : Wk w' G r lr mu wd nest := (hg.block G h.lt (fun e => hne (by injection e))).trans h
end
theorem only_transD {a b c : World} {row : Option Nat} (h : a.grownBy b row) (k : b.drew.grownBy c row) : a.grownBy c row :=
 ⟨k.os.trans h.os, k.tape.trans h.tape, k.output.trans h.output, Nat.le_trans h.size k.size, fun i hi hn => (k.block i (Nat.lt_of_lt_of_le hi h.size) hn).trans (h.block i hi hn)⟩
theorem joinE0 (x : Int) : joinE 0 x = x := rfl
set_option maxRecDepth 100000 in
set_option maxHeartbeats 4000000 in
theorem step_any (r f : Nat) (e lr mu wd : Int) (nest : Bool) (W V g : Int) (w : World) (hf : f ≤ 40) (hr : Rk w r f e)
   (hlr : In64 lr) (hmu : In64 mu) (hwd : In64 wd) (hW : In64 W) (hV : In64 V) (hg : In64 g) :
   Calls Tryz.prog 166 #[.agg #[.pointer (some ⟨r, 0, none⟩), .int .i64 lr, .int .i64 mu, .int .i64 wd, .bool nest], .int .i64 W, .int .i64 V, .int .i64 g] w fun x w' =>
     x = .returned (.tuple #[.int .i64 (stW lr f W (stU nest mu f (stD wd f W g) (stV mu f V (stD wd f W g)))), .int .i64 (stV mu f V (stD wd f W g))]) ∧ Rk w' r f (joinE e (stE lr mu wd nest f W V g)) ∧ w.grownBy w' (some r) := by
 obtain ⟨G, hG⟩ : ∃ G, G = w.heap.size := ⟨_, rfl⟩
 have hGr : G ≠ r := by have := hr.lt; omega
 have hm1 := fun w h => kmul_any r f e wd W w hf hwd hW h
 obtain ⟨x1, hx1⟩ : ∃ x, x = fitV (mulZ wd W f) := ⟨_, rfl⟩
 obtain ⟨e1, he1⟩ : ∃ x, x = joinE e (fitE (mulZ wd W f)) := ⟨_, rfl⟩
 rw [← hx1, ← he1] at hm1
 have i1 : In64 x1 := by rw [hx1]; exact fitV_in _
 have ha1 := fun w h => kadd_any r f e1 g x1 w hg i1 h
 obtain ⟨d, hd⟩ : ∃ x, x = fitV (g + x1) := ⟨_, rfl⟩
 obtain ⟨e2, he2⟩ : ∃ x, x = joinE e1 (fitE (g + x1)) := ⟨_, rfl⟩
 rw [← hd, ← he2] at ha1
 have i2 : In64 d := by rw [hd]; exact fitV_in _
 have hm2 := fun w h => kmul_any r f e2 mu V w hf hmu hV h
 obtain ⟨x2, hx2⟩ : ∃ x, x = fitV (mulZ mu V f) := ⟨_, rfl⟩
 obtain ⟨e3, he3⟩ : ∃ x, x = joinE e2 (fitE (mulZ mu V f)) := ⟨_, rfl⟩
 rw [← hx2, ← he3] at hm2
 have i3 : In64 x2 := by rw [hx2]; exact fitV_in _
 have ha2 := fun w h => kadd_any r f e3 x2 d w i3 i2 h
 obtain ⟨vel, hvel⟩ : ∃ x, x = fitV (x2 + d) := ⟨_, rfl⟩
 obtain ⟨e4, he4⟩ : ∃ x, x = joinE e3 (fitE (x2 + d)) := ⟨_, rfl⟩
 rw [← hvel, ← he4] at ha2
 have i4 : In64 vel := by rw [hvel]; exact fitV_in _
 have hsd : stD wd f W g = d := by rw [hd, hx1]; rfl
 have hsv : stV mu f V d = vel := by rw [hvel, hx2]; rfl
 rw [hsd, hsv]
 have HD := Lib.hid (And.intro hx1 (And.intro he1 (And.intro hd (And.intro he2 (And.intro hx2 (And.intro he3 (And.intro hvel he4)))))))
 clear hx1 he1 hd he2 hx2 he3 hvel he4 hsd hsv
 go_enter Tryz.func166, Tryz.ntmps166
 go_wp2
 obtain ⟨W0, hW0⟩ : ∃ W0, W0 = w.alloc (.cells #[.pointer (some ⟨r, 0, none⟩), .int .i64 lr, .int .i64 mu, .int .i64 wd, .bool nest] 187) := ⟨_, rfl⟩
 have hk0 : Wk W0 G r lr mu wd nest := by rw [hW0, hG]; exact heap_alloc_new w _
 have hr0 : Rk W0 r f e := by rw [hW0]; exact hr.alloc _
 have g0 : w.grownBy W0 (some r) := by rw [hW0]; exact only_of_below ((Below.refl _ w).alloc (Nat.le_refl _) _) _
 rw [← hW0, ← hG]
 have HG := Lib.hid hG
 clear hW0 hG hr

 go_region_held3 (fun w' => w'.cell? ⟨G, 0, none⟩ = some (.pointer (some ⟨r, 0, none⟩)) ∧ w'.cell? ⟨G, 1, none⟩ = some (.int .i64 lr) ∧ w'.cell? ⟨G, 2, none⟩ = some (.int .i64 mu) ∧ w'.cell? ⟨G, 3, none⟩ = some (.int .i64 wd)) (exact Wk.cells (by assumption))
   (first
     | (go_at_call 213; refine (hm1 _ ?_).mono ?_; exact hr0; rintro x w1 ⟨rfl, hr1, g1⟩; have hk1 := Wk.only (by assumption) g1 hGr)
     | (go_at_call 212; refine (ha1 _ ?_).mono ?_; exact hr1; rintro x w2 ⟨rfl, hr2, g2⟩; have hk2 := Wk.only (by assumption) g2 hGr))
 go_wp2
 go_region_held3 (fun w' => w'.cell? ⟨G, 0, none⟩ = some (.pointer (some ⟨r, 0, none⟩)) ∧ w'.cell? ⟨G, 1, none⟩ = some (.int .i64 lr) ∧ w'.cell? ⟨G, 2, none⟩ = some (.int .i64 mu) ∧ w'.cell? ⟨G, 3, none⟩ = some (.int .i64 wd)) (exact Wk.cells (by assumption))
   (first
     | (go_at_call 213; refine (hm2 _ ?_).mono ?_; exact hr2; rintro x w3 ⟨rfl, hr3, g3⟩; have hk3 := Wk.only (by assumption) g3 hGr)
     | (go_at_call 212; refine (ha2 _ ?_).mono ?_; exact hr3; rintro x w4 ⟨rfl, hr4, g4⟩; have hk4 := Wk.only (by assumption) g4 hGr))
 have hn := hk4.nest_
 cases nest
 · have hm4 := fun w h => kmul_any r f e4 lr vel w hf hlr i4 h
   obtain ⟨x4, hx4⟩ : ∃ x, x = fitV (mulZ lr vel f) := ⟨_, rfl⟩
   obtain ⟨e7, he7⟩ : ∃ x, x = joinE e4 (fitE (mulZ lr vel f)) := ⟨_, rfl⟩
   rw [← hx4, ← he7] at hm4
   have i7 : In64 x4 := by rw [hx4]; exact fitV_in _
   have hs4 := fun w h => ksub_any r f e7 W x4 w hW i7 h
   obtain ⟨w', hw'⟩ : ∃ x, x = fitV (W - x4) := ⟨_, rfl⟩
   obtain ⟨e8, he8⟩ : ∃ x, x = joinE e7 (fitE (W - x4)) := ⟨_, rfl⟩
   rw [← hw', ← he8] at hs4
   have HE := Lib.hid (And.intro hx4 (And.intro he7 (And.intro hw' he8)))
   clear hx4 he7 hw' he8
   go_wp2
   go_region_held3 (fun w' => w'.cell? ⟨G, 0, none⟩ = some (.pointer (some ⟨r, 0, none⟩)) ∧ w'.cell? ⟨G, 1, none⟩ = some (.int .i64 lr) ∧ w'.cell? ⟨G, 2, none⟩ = some (.int .i64 mu) ∧ w'.cell? ⟨G, 3, none⟩ = some (.int .i64 wd)) (exact Wk.cells (by assumption))
     (first
       | (go_at_call 213; refine (hm4 _ ?_).mono ?_; exact hr4; rintro x w5 ⟨rfl, hr5, g5⟩; have hk5 := Wk.only (by assumption) g5 hGr)
       | (go_at_call 214; refine (hs4 _ ?_).mono ?_; exact hr5; rintro x w6 ⟨rfl, hr6, g6⟩; have hk6 := Wk.only (by assumption) g6 hGr))
   go_wp2
   go_ret2
   obtain ⟨f1, f2, f3, f4, f5, f6, f7, f8⟩ := HD.out
   obtain ⟨f9, f10, f11, f12⟩ := HE.out
   refine ⟨?_, ?_, only_transD (only_transD (only_transD g0 (only_trans g1 (only_trans g2 (only_refl _ _)))) (only_trans g3 (only_trans g4 (only_refl _ _)))) (only_trans g5 g6)⟩
   · rw [show stW lr f W (stU false mu f d vel) = w' from by rw [f11, f9]; rfl]; rfl
   · have : e8 = joinE e (stE lr mu wd false f W V g) := by
       clear f11
       subst f12 f10 f9 f8 f7 f6 f5 f4 f3 f2 f1
       simp [stE, stD, stV, stU, joinE_assoc, joinE0]
     rw [← this]; exact hr6
 · have hm3 := fun w h => kmul_any r f e4 mu vel w hf hmu i4 h
   obtain ⟨x3, hx3⟩ : ∃ x, x = fitV (mulZ mu vel f) := ⟨_, rfl⟩
   obtain ⟨e5, he5⟩ : ∃ x, x = joinE e4 (fitE (mulZ mu vel f)) := ⟨_, rfl⟩
   rw [← hx3, ← he5] at hm3
   have i5 : In64 x3 := by rw [hx3]; exact fitV_in _
   have ha3 := fun w h => kadd_any r f e5 d x3 w i2 i5 h
   obtain ⟨u, hu⟩ : ∃ x, x = fitV (d + x3) := ⟨_, rfl⟩
   obtain ⟨e6, he6⟩ : ∃ x, x = joinE e5 (fitE (d + x3)) := ⟨_, rfl⟩
   rw [← hu, ← he6] at ha3
   have i6 : In64 u := by rw [hu]; exact fitV_in _
   have HF := Lib.hid (And.intro hx3 (And.intro he5 (And.intro hu he6)))
   clear hx3 he5 hu he6
   have hm4 := fun w h => kmul_any r f e6 lr u w hf hlr i6 h
   obtain ⟨x4, hx4⟩ : ∃ x, x = fitV (mulZ lr u f) := ⟨_, rfl⟩
   obtain ⟨e7, he7⟩ : ∃ x, x = joinE e6 (fitE (mulZ lr u f)) := ⟨_, rfl⟩
   rw [← hx4, ← he7] at hm4
   have i7 : In64 x4 := by rw [hx4]; exact fitV_in _
   have hs4 := fun w h => ksub_any r f e7 W x4 w hW i7 h
   obtain ⟨w', hw'⟩ : ∃ x, x = fitV (W - x4) := ⟨_, rfl⟩
   obtain ⟨e8, he8⟩ : ∃ x, x = joinE e7 (fitE (W - x4)) := ⟨_, rfl⟩
   rw [← hw', ← he8] at hs4
   have HE := Lib.hid (And.intro hx4 (And.intro he7 (And.intro hw' he8)))
   clear hx4 he7 hw' he8
   go_wp2
   go_region_held3 (fun w' => w'.cell? ⟨G, 0, none⟩ = some (.pointer (some ⟨r, 0, none⟩)) ∧ w'.cell? ⟨G, 1, none⟩ = some (.int .i64 lr) ∧ w'.cell? ⟨G, 2, none⟩ = some (.int .i64 mu) ∧ w'.cell? ⟨G, 3, none⟩ = some (.int .i64 wd)) (exact Wk.cells (by assumption))
     (first
       | (go_at_call 213; refine (hm3 _ ?_).mono ?_; exact hr4; rintro x w5 ⟨rfl, hr5, g5⟩; have hk5 := Wk.only (by assumption) g5 hGr)
       | (go_at_call 212; refine (ha3 _ ?_).mono ?_; exact hr5; rintro x w6 ⟨rfl, hr6, g6⟩; have hk6 := Wk.only (by assumption) g6 hGr))
   go_wp2
   go_region_held3 (fun w' => w'.cell? ⟨G, 0, none⟩ = some (.pointer (some ⟨r, 0, none⟩)) ∧ w'.cell? ⟨G, 1, none⟩ = some (.int .i64 lr) ∧ w'.cell? ⟨G, 2, none⟩ = some (.int .i64 mu) ∧ w'.cell? ⟨G, 3, none⟩ = some (.int .i64 wd)) (exact Wk.cells (by assumption))
     (first
       | (go_at_call 213; refine (hm4 _ ?_).mono ?_; exact hr6; rintro x w7 ⟨rfl, hr7, g7⟩; have hk7 := Wk.only (by assumption) g7 hGr)
       | (go_at_call 214; refine (hs4 _ ?_).mono ?_; exact hr7; rintro x w8 ⟨rfl, hr8, g8⟩; have hk8 := Wk.only (by assumption) g8 hGr))
   go_wp2
   go_ret2
   obtain ⟨f1, f2, f3, f4, f5, f6, f7, f8⟩ := HD.out
   obtain ⟨f9, f10, f11, f12⟩ := HE.out
   obtain ⟨k1, k2, k3, k4⟩ := HF.out
   refine ⟨?_, ?_, only_transD (only_transD (only_transD (only_transD g0 (only_trans g1 (only_trans g2 (only_refl _ _)))) (only_trans g3 (only_trans g4 (only_refl _ _)))) (only_trans g5 (only_trans g6 (only_refl _ _)))) (only_trans g7 g8)⟩
   · rw [show stW lr f W (stU true mu f d vel) = w' from by rw [f11, f9, k3, k1]; rfl]; rfl
   · have : e8 = joinE e (stE lr mu wd true f W V g) := by
       clear f11
       subst f12 f10 f9 k4 k3 k2 k1 f8 f7 f6 f5 f4 f3 f2 f1
       simp [stE, stD, stV, stU, joinE_assoc]
     rw [← this]; exact hr8
end Go.Proofs.YtdnjdglekifhpaaGreat
namespace Go.Proofs.YtdnjdglekifhpaaGreat
open Go.RowKit
attribute [local go_sem ↓] Go.wp_at_zero Go.wp_at_succ
def rightM (lr mu wd f : Int) : Bool := decide (0 ≤ f ∧ f ≤ 40 ∧ 0 ≤ lr ∧ 0 ≤ mu ∧ mu < 2 ^ f.toNat ∧ 0 ≤ wd ∧ wd ≤ 2 ^ f.toNat)
set_option maxHeartbeats 2000000 in
theorem mright_any (lr mu wd f : Int) (nest : Bool) (w : World) :
   Calls Tryz.prog 165 #[.agg #[.int .i64 lr, .int .i64 mu, .int .i64 wd, .bool nest], .int .i64 f] w fun x w' => x = .returned (.bool (rightM lr mu wd f)) ∧ Below w.heap.size w w' := by
 have HB := Lib.hid ((Below.refl _ w).alloc (Nat.le_refl _) (.cells #[.int .i64 lr, .int .i64 mu, .int .i64 wd, .bool nest] 79))
 by_cases h0 : 0 ≤ f
 · by_cases h1 : f ≤ 40
   · obtain ⟨n, rfl⟩ := Int.eq_ofNat_of_zero_le h0
     have hn : n ≤ 40 := by omega
     obtain ⟨p1, p2⟩ := pow_le40 n hn
     have hsh : IntKind.i64.wrap (1 * 2 ^ n) = ((2 ^ n : Nat) : Int) := by
       rw [IntKind.wrap_i64, Int.one_mul, show (2 : Int) ^ n = ((2 ^ n : Nat) : Int) from by simp]; omega
     have hsh2 : IntKind.i64.wrap (2 ^ n) = ((2 ^ n : Nat) : Int) := by
       rw [IntKind.wrap_i64, show (2 : Int) ^ n = ((2 ^ n : Nat) : Int) from by simp]; omega
     have hR : rightM lr mu wd n = (decide (0 ≤ lr) && (decide (0 ≤ mu) && (decide (mu < ((2 ^ n : Nat) : Int)) && (decide (0 ≤ wd) && decide (wd ≤ ((2 ^ n : Nat) : Int)))))) := by
       unfold rightM
       rw [show (2 : Int) ^ (n : Int).toNat = ((2 ^ n : Nat) : Int) from by simp]
       generalize ((2 ^ n : Nat) : Int) = one
       rw [Bool.eq_iff_iff]; simp only [decide_eq_true_eq, Bool.and_eq_true]; omega
     rw [hR]
     clear hR
     generalize 2 ^ n = one at *
     clear p1 p2 h0 h1
     cases b1 : decide (0 ≤ lr) <;> cases b2 : decide (0 ≤ mu) <;> cases b3 : decide (mu < (one : Int)) <;> cases b4 : decide (0 ≤ wd) <;> cases b5 : decide (wd ≤ (one : Int))
     all_goals
       go_enter Tryz.func165, Tryz.ntmps165
       go_wp2
       go_ret
       exact ⟨rfl, HB.out⟩
   · rw [show rightM lr mu wd f = false from decide_eq_false (fun h => h1 h.2.1)]
     go_enter Tryz.func165, Tryz.ntmps165
     go_wp2
     go_ret
     exact ⟨rfl, HB.out⟩
 · rw [show rightM lr mu wd f = false from decide_eq_false (fun h => h0 h.1)]
   go_enter Tryz.func165, Tryz.ntmps165
   go_wp2
   go_ret
   exact ⟨rfl, HB.out⟩
end Go.Proofs.YtdnjdglekifhpaaGreat
namespace Go.Proofs.YtdnjdglekifhpaaGreat
open Go.RowKit
attribute [local go_sem ↓] Go.wp_at_zero Go.wp_at_succ
set_option maxHeartbeats 2000000 in
theorem Step_wrong (lr mu wd f : Int) (nest : Bool) (vW vM vV vG : Value) (W : List Int) (w : World) (hW : IsI w vW W) (hr : rightM lr mu wd f = false) :
   Calls Tryz.prog 104 #[.agg #[.int .i64 lr, .int .i64 mu, .int .i64 wd, .bool nest], .int .i64 f, .agg #[vW, vM, vV, vG]] w fun x w' => x = .returned (.tuple #[.agg #[.slice none 0 0, .slice none 0 0, .slice none 0 0, .slice none 0 0], .int .i64 1]) ∧ Below w.heap.size w w' := by
 have hR := fun w => mright_any lr mu wd f nest w
 rw [hr] at hR
 obtain ⟨AW, cW, rfl, hc1, hc2, hRW⟩ := hW
 obtain ⟨B, hB⟩ : ∃ B, B = w.heap.size := ⟨_, rfl⟩
 go_enter Tryz.func104, Tryz.ntmps104
 go_wp2_with fail
 obtain ⟨W0, hW0⟩ : ∃ W0, W0 = ((w.alloc (.cells #[.int .i64 lr, .int .i64 mu, .int .i64 wd, .bool nest] 79)).alloc (.cells #[.slice AW W.length cW, vM, vV, vG] 64)).alloc (.cells #[.slice none 0 0, .slice none 0 0, .slice none 0 0, .slice none 0 0] 64) := ⟨_, rfl⟩
 have h6 : Blk W0 (B + 2) 64 #[.slice none 0 0, .slice none 0 0, .slice none 0 0, .slice none 0 0] := by
   rw [hW0, hB]; have := Blk.new ((w.alloc (.cells #[.int .i64 lr, .int .i64 mu, .int .i64 wd, .bool nest] 79)).alloc (.cells #[.slice AW W.length cW, vM, vV, vG] 64)) 64 #[.slice none 0 0, .slice none 0 0, .slice none 0 0, .slice none 0 0]
   simpa using this
 have hb0 : Below w.heap.size w W0 := by rw [hW0]; exact (((Below.refl _ w).alloc (Nat.le_refl _) _).alloc (by simp) _).alloc (by simp; omega) _
 rw [← hW0, ← hB]
 refine (hR _).mono ?_
 rintro x w1 ⟨rfl, b1⟩
 have h6 := h6.below b1 h6.lt
 have b1 := hb0.trans (b1.mono hb0.size)
 have hB2 : w.heap.size ≤ B + 2 := by omega
 clear hW0 hb0 hB
 have c0 := h6.cell 0
 have c1 := h6.cell 1
 have c2 := h6.cell 2
 have c3 := h6.cell 3
 have z0 := h6.frozen 0
 have z1 := h6.frozen 1
 have z2 := h6.frozen 2
 have z3 := h6.frozen 3
 go_wp2
 refine bodyPost_ret (v := .tuple #[.agg #[.slice none 0 0, .slice none 0 0, .slice none 0 0, .slice none 0 0], .int .i64 1]) (by simp [results, Tryz.results104, go_sem, c0, c1, c2, c3]) rfl ⟨rfl, ?_⟩
 exact (((b1.setCell (p := ⟨B + 2, 0, none⟩) hB2 _).setCell (p := ⟨B + 2, 1, none⟩) hB2 _).setCell (p := ⟨B + 2, 2, none⟩) hB2 _).setCell (p := ⟨B + 2, 3, none⟩) hB2 _
set_option maxHeartbeats 2000000 in
theorem Step_shape (lr mu wd f : Int) (nest : Bool) (vW vM vV vG : Value) (W M G : List Int) (w : World) (hW : IsI w vW W) (hM : IsI w vM M) (hG : IsI w vG G) (hr : rightM lr mu wd f = true) (hs : ¬ (M.length = W.length ∧ G.length = W.length)) :
   Calls Tryz.prog 104 #[.agg #[.int .i64 lr, .int .i64 mu, .int .i64 wd, .bool nest], .int .i64 f, .agg #[vW, vM, vV, vG]] w fun x w' => x = .returned (.tuple #[.agg #[.slice none 0 0, .slice none 0 0, .slice none 0 0, .slice none 0 0], .int .i64 5]) ∧ Below w.heap.size w w' := by
 have hR := fun w => mright_any lr mu wd f nest w
 rw [hr] at hR
 obtain ⟨AW, cW, rfl, hc1, hc2, hRW⟩ := hW
 obtain ⟨AM, cM, rfl, hm1, hm2, hRM⟩ := hM
 obtain ⟨AG, cG, rfl, hg1, hg2, hRG⟩ := hG
 obtain ⟨B, hB⟩ : ∃ B, B = w.heap.size := ⟨_, rfl⟩
 go_enter Tryz.func104, Tryz.ntmps104
 go_wp2_with fail
 obtain ⟨W0, hW0⟩ : ∃ W0, W0 = ((w.alloc (.cells #[.int .i64 lr, .int .i64 mu, .int .i64 wd, .bool nest] 79)).alloc (.cells #[.slice AW W.length cW, .slice AM M.length cM, vV, .slice AG G.length cG] 64)).alloc (.cells #[.slice none 0 0, .slice none 0 0, .slice none 0 0, .slice none 0 0] 64) := ⟨_, rfl⟩
 have h6 : Blk W0 (B + 2) 64 #[.slice none 0 0, .slice none 0 0, .slice none 0 0, .slice none 0 0] := by
   rw [hW0, hB]; have := Blk.new ((w.alloc (.cells #[.int .i64 lr, .int .i64 mu, .int .i64 wd, .bool nest] 79)).alloc (.cells #[.slice AW W.length cW, .slice AM M.length cM, vV, .slice AG G.length cG] 64)) 64 #[.slice none 0 0, .slice none 0 0, .slice none 0 0, .slice none 0 0]
   simpa using this
 have h5 : Blk W0 (B + 1) 64 #[.slice AW W.length cW, .slice AM M.length cM, vV, .slice AG G.length cG] := by
   rw [hW0, hB]; have := Blk.new (w.alloc (.cells #[.int .i64 lr, .int .i64 mu, .int .i64 wd, .bool nest] 79)) 64 #[.slice AW W.length cW, .slice AM M.length cM, vV, .slice AG G.length cG]
   rw [World.size_alloc] at this
   exact this.alloc _
 have hb0 : Below w.heap.size w W0 := by rw [hW0]; exact (((Below.refl _ w).alloc (Nat.le_refl _) _).alloc (by simp) _).alloc (by simp; omega) _
 rw [← hW0, ← hB]
 refine (hR _).mono ?_
 rintro x w1 ⟨rfl, b1⟩
 have h6 := h6.below b1 h6.lt
 have h5 := h5.below b1 h5.lt
 have b1 := hb0.trans (b1.mono hb0.size)
 have hB2 : w.heap.size ≤ B + 2 := by omega
 clear hW0 hb0 hB
 have c0 := h6.cell 0
 have c1 := h6.cell 1
 have c2 := h6.cell 2
 have c3 := h6.cell 3
 have z0 := h6.frozen 0
 have z1 := h6.frozen 1
 have z2 := h6.frozen 2
 have z3 := h6.frozen 3
 have l1 := h5.cell 1
 have l3 := h5.cell 3
 have END := Lib.hid ((((b1.setCell (p := ⟨B + 2, 0, none⟩) hB2 (.slice none 0 0)).setCell (p := ⟨B + 2, 1, none⟩) hB2 (.slice none 0 0)).setCell (p := ⟨B + 2, 2, none⟩) hB2 (.slice none 0 0)).setCell (p := ⟨B + 2, 3, none⟩) hB2 (.slice none 0 0))
 by_cases hm : M.length = W.length
 · have hg : G.length ≠ W.length := fun h => hs ⟨hm, h⟩
   have d1 : ((M.length : Int) != (W.length : Int)) = false := by simp [hm]
   have d2 : ((G.length : Int) != (W.length : Int)) = true := by simp; omega
   have d3 : decide (M.length = W.length) = true := decide_eq_true hm
   have d4 : decide (G.length = W.length) = false := decide_eq_false hg
   have HH := Lib.hid (And.intro hm (And.intro hg hs))
   clear hm hg hs
   go_wp2
   exact bodyPost_ret (v := .tuple #[.agg #[.slice none 0 0, .slice none 0 0, .slice none 0 0, .slice none 0 0], .int .i64 5]) (by simp [results, Tryz.results104, go_sem, c0, c1, c2, c3]) rfl ⟨rfl, END.out⟩
 · have d1 : ((M.length : Int) != (W.length : Int)) = true := by simp; omega
   have d3 : decide (M.length = W.length) = false := decide_eq_false hm
   have HH := Lib.hid (And.intro hm hs)
   clear hm hs
   go_wp2
   exact bodyPost_ret (v := .tuple #[.agg #[.slice none 0 0, .slice none 0 0, .slice none 0 0, .slice none 0 0], .int .i64 5]) (by simp [results, Tryz.results104, go_sem, c0, c1, c2, c3]) rfl ⟨rfl, END.out⟩
end Go.Proofs.YtdnjdglekifhpaaGreat
namespace Go.Proofs.YtdnjdglekifhpaaGreat
open Go.RowKit
section
variable {w w' : World} {l : List Int}
def ArrI (w : World) (v : Value) (l : List Int) : Prop := ∃ g n, v = .slice (some ⟨g, 0, none⟩) n n ∧ l.length = n ∧ n ≤ 9223372036854775807 ∧ IArr w g l
theorem ArrI.is {v : Value} (h : ArrI w v l) : IsI w v l := by
 obtain ⟨g, n, rfl, rfl, h2, h3⟩ := h
 exact h3.isI h2
theorem ArrI.below {v : Value} (h : ArrI w v l) (hb : Below w.heap.size w w') : ArrI w' v l := by
 obtain ⟨g, n, e, h1, h2, h3⟩ := h
 exact ⟨g, n, e, h1, h2, h3.below hb h3.lt⟩
end
end Go.Proofs.YtdnjdglekifhpaaGreat
namespace Go.Proofs.YtdnjdglekifhpaaGreat
open Go.RowKit
attribute [local go_sem ↓] Go.wp_at_zero Go.wp_at_succ
section
variable (lr mu wd : Int) (nest : Bool) (f : Nat) (W M G : List Int)
def plV (i : Nat) : Int := stV mu f (iat M i) (stD wd f (iat W i) (iat G i))
def plW (i : Nat) : Int := stW lr f (iat W i) (stU nest mu f (stD wd f (iat W i) (iat G i)) (stV mu f (iat M i) (stD wd f (iat W i) (iat G i))))
def plE (i : Nat) : Int := stE lr mu wd nest f (iat W i) (iat M i) (iat G i)
def errTo : Nat → Int
 | 0 => 0
 | k + 1 => joinE (errTo k) (plE lr mu wd nest f W M G k)
end
def outTo (g : Nat → Int) (k n : Nat) : List Int := (List.range n).map fun i => if i < k then g i else 0
theorem outTo_len (g : Nat → Int) (k n : Nat) : (outTo g k n).length = n := by simp [outTo]
theorem outTo_zero (g : Nat → Int) (n : Nat) : outTo g 0 n = List.replicate n 0 := by
 unfold outTo; rw [List.eq_replicate_iff]; simp
theorem outTo_set (g : Nat → Int) (k n : Nat) : (outTo g k n).set k (g k) = outTo g (k + 1) n := by
 apply List.ext_getElem (by simp [outTo])
 intro i h1 h2
 simp only [outTo, List.length_map, List.length_range, List.length_set] at h1 h2
 rw [List.getElem_set]
 simp only [outTo, List.getElem_map, List.getElem_range]
 by_cases h : k = i
 · subst h; simp
 · rw [if_neg h]
   by_cases h3 : i < k
   · rw [if_pos h3, if_pos (by omega)]
   · rw [if_neg h3, if_neg (by omega)]
theorem outTo_all (g : Nat → Int) (n : Nat) : outTo g n n = (List.range n).map g := by
 unfold outTo; apply List.map_congr_left; intro i hi; rw [if_pos (by simpa using hi)]
def StepT (w : World) (BO BW BM R B n cW cM cG : Nat) (lr mu wd : Int) (nest : Bool) (adW adM adG : Addr) (vV : Value) (k : Nat) (a b c : Int) : Prop :=
 Wk w (R + 1) R lr mu wd nest ∧ Blk w BO 64 #[.slice (some ⟨BW, 0, none⟩) n n, .slice (some ⟨BM, 0, none⟩) n n, .slice none 0 0, .slice none 0 0] ∧
 Blk w (B + 1) 64 #[.slice (some adW) n cW, .slice (some adM) n cM, vV, .slice (some adG) n cG] ∧
 w.cell? (adW.add k) = some (.int .i64 a) ∧ w.cell? (adM.add k) = some (.int .i64 b) ∧ w.cell? (adG.add k) = some (.int .i64 c)
section
variable {w w' : World} {BO BW BM R B n cW cM cG : Nat} {lr mu wd : Int} {nest : Bool} {adW adM adG : Addr} {vV : Value} {k : Nat} {a b c : Int}
theorem StepT.cells (h : StepT w BO BW BM R B n cW cM cG lr mu wd nest adW adM adG vV k a b c) :
   w.cell? ⟨BO, 0, none⟩ = some (.slice (some ⟨BW, 0, none⟩) n n) ∧ w.cell? ⟨BO, 1, none⟩ = some (.slice (some ⟨BM, 0, none⟩) n n) ∧
   w.cell? ⟨R + 1, 0, none⟩ = some (.pointer (some ⟨R, 0, none⟩)) ∧ w.cell? ⟨R + 1, 1, none⟩ = some (.int .i64 lr) ∧ w.cell? ⟨R + 1, 2, none⟩ = some (.int .i64 mu) ∧ w.cell? ⟨R + 1, 3, none⟩ = some (.int .i64 wd) ∧ w.cell? ⟨R + 1, 4, none⟩ = some (.bool nest) ∧
   w.cell? ⟨B + 1, 0, none⟩ = some (.slice (some adW) n cW) ∧ w.cell? ⟨B + 1, 1, none⟩ = some (.slice (some adM) n cM) ∧ w.cell? ⟨B + 1, 3, none⟩ = some (.slice (some adG) n cG) ∧
   w.cell? (adW.add k) = some (.int .i64 a) ∧ w.cell? (adM.add k) = some (.int .i64 b) ∧ w.cell? (adG.add k) = some (.int .i64 c) := by
 obtain ⟨h1, h2, h3, h4, h5, h6⟩ := h
 obtain ⟨c0, c1, c2, c3⟩ := h1.cells
 exact ⟨h2.cell 0, h2.cell 1, c0, c1, c2, c3, h1.nest_, h3.cell 0, h3.cell 1, h3.cell 3, h4, h5, h6⟩
theorem StepT.far (h : StepT w BO BW BM R B n cW cM cG lr mu wd nest adW adM adG vV k a b c)
   (hk : ∀ i, i ≠ R → i ≠ BW → i ≠ BM → i < w.heap.size → w'.heap[i]? = w.heap[i]?) (hR : R + 2 ≤ BW) (hR2 : R + 2 ≤ BM) (n1 : BO ≠ BW) (n2 : BO ≠ BM) (n0 : R + 2 ≤ BO) (hBR : B + 1 < R)
   (x1 : adW.block < B) (x2 : adM.block < B) (x3 : adG.block < B) (hw : B ≤ w.heap.size) : StepT w' BO BW BM R B n cW cM cG lr mu wd nest adW adM adG vV k a b c := by
 obtain ⟨h1, h2, h3, h4, h5, h6⟩ := h
 refine ⟨(hk _ (by omega) (by omega) (by omega) h1.lt).trans h1, (hk _ (by omega) n1 n2 h2.lt).trans h2, (hk _ (by omega) (by omega) (by omega) h3.lt).trans h3, ?_, ?_, ?_⟩
 · rw [← h4]; exact World.cell?_of_block (by rw [block_of_add]; exact hk _ (by omega) (by omega) (by omega) (by omega))
 · rw [← h5]; exact World.cell?_of_block (by rw [block_of_add]; exact hk _ (by omega) (by omega) (by omega) (by omega))
 · rw [← h6]; exact World.cell?_of_block (by rw [block_of_add]; exact hk _ (by omega) (by omega) (by omega) (by omega))
theorem StepT.set_ (h : StepT w BO BW BM R B n cW cM cG lr mu wd nest adW adM adG vV k a b c) {g : Nat} (h1 : R + 2 ≤ g) (h2 : BO ≠ g) (hBR : B + 1 < R)
   (x1 : adW.block < B) (x2 : adM.block < B) (x3 : adG.block < B) (x : Value) : StepT (w.setCell ⟨g, k, none⟩ x) BO BW BM R B n cW cM cG lr mu wd nest adW adM adG vV k a b c := by
 obtain ⟨k1, k2, k3, k4, k5, k6⟩ := h
 have hb : ∀ i, i ≠ g → (w.setCell ⟨g, k, none⟩ x).heap[i]? = w.heap[i]? := fun i hi => Below.heap_setCell w ⟨g, k, none⟩ x i hi
 refine ⟨(hb _ (by omega)).trans k1, (hb _ h2).trans k2, (hb _ (by omega)).trans k3, ?_, ?_, ?_⟩
 · rw [← k4]; exact World.cell?_of_block (by rw [block_of_add]; exact hb _ (by omega))
 · rw [← k5]; exact World.cell?_of_block (by rw [block_of_add]; exact hb _ (by omega))
 · rw [← k6]; exact World.cell?_of_block (by rw [block_of_add]; exact hb _ (by omega))
end
theorem three0 {w : World} {S : Nat} (h : w.heap.size = S) (x y z : Obj) : ((((w.alloc x).alloc y).alloc z).drew).heap[S]? = some x := by
 subst h
 exact (Below.heap_alloc _ z _ (by simp; omega)).trans ((Below.heap_alloc _ y _ (by simp)).trans (heap_alloc_new w x))
theorem three1 {w : World} {S : Nat} (h : w.heap.size = S) (x y z : Obj) : ((((w.alloc x).alloc y).alloc z).drew).heap[S + 1]? = some y := by
 subst h
 have := heap_alloc_new (w.alloc x) y
 rw [World.size_alloc] at this
 exact (Below.heap_alloc _ z _ (by simp)).trans this
theorem three2 {w : World} {S : Nat} (h : w.heap.size = S) (x y z : Obj) : ((((w.alloc x).alloc y).alloc z).drew).heap[S + 1 + 1]? = some z := by
 subst h
 have := heap_alloc_new ((w.alloc x).alloc y) z
 rw [World.size_alloc, World.size_alloc] at this
 exact this
theorem three_below {w : World} {S : Nat} (h : w.heap.size = S) (x y z : Obj) : Below S w (((w.alloc x).alloc y).alloc z).drew := by
 subst h
 exact ((((Below.refl _ w).alloc (Nat.le_refl _) _).alloc (by simp) _).alloc (by simp; omega) _).drew
set_option maxRecDepth 100000 in
set_option maxHeartbeats 4000000 in
theorem Step_runs (lr mu wd : Int) (f : Nat) (nest : Bool) (vW vM vV vG : Value) (W M G : List Int) (w : World) (hW : IsI w vW W) (hM : IsI w vM M) (hG : IsI w vG G) (hr : rightM lr mu wd f = true) (hs : M.length = W.length ∧ G.length = W.length) (hn : W.length ≤ 1000000)
   (hf : f ≤ 40) (hlr : In64 lr) (hmu : In64 mu) (hwd : In64 wd) (iW : ∀ i, In64 (iat W i)) (iM : ∀ i, In64 (iat M i)) (iG : ∀ i, In64 (iat G i)) :
   Calls Tryz.prog 104 #[.agg #[.int .i64 lr, .int .i64 mu, .int .i64 wd, .bool nest], .int .i64 f, .agg #[vW, vM, vV, vG]] w fun x w' =>
     (errTo lr mu wd nest f W M G W.length ≠ 0 → x = .returned (.tuple #[.agg #[.slice none 0 0, .slice none 0 0, .slice none 0 0, .slice none 0 0], .int .i64 2])) ∧
     (errTo lr mu wd nest f W M G W.length = 0 → ∃ a b, x = .returned (.tuple #[.agg #[a, b, .slice none 0 0, .slice none 0 0], .int .i64 0]) ∧ ArrI w' a ((List.range W.length).map (plW lr mu wd nest f W M G)) ∧ ArrI w' b ((List.range W.length).map (plV mu wd f W M G))) ∧ Below w.heap.size w w' := by
 have hR := fun w => mright_any lr mu wd f nest w
 rw [hr] at hR
 obtain ⟨AW, cW, rfl, hc1, hc2, hRW⟩ := hW
 obtain ⟨AM, cM, rfl, hm1, hm2, hRM⟩ := hM
 obtain ⟨AG, cG, rfl, hg1, hg2, hRG⟩ := hG
 obtain ⟨hsM, hsG⟩ := hs
 obtain ⟨n, hnn⟩ : ∃ n, n = W.length := ⟨_, rfl⟩
 rw [hsM] at hRM hm1 ⊢
 rw [hsG] at hRG hg1 ⊢
 rw [← hnn] at hRW hRM hRG hn hc1 hm1 hg1 ⊢
 obtain ⟨B, hB⟩ : ∃ B, B = w.heap.size := ⟨_, rfl⟩
 have HN := Lib.hid (And.intro hnn (And.intro hsM hsG))
 clear hnn hsM hsG
 go_enter Tryz.func104, Tryz.ntmps104
 go_wp2_with fail
 obtain ⟨W0, hW0⟩ : ∃ W0, W0 = ((w.alloc (.cells #[.int .i64 lr, .int .i64 mu, .int .i64 wd, .bool nest] 79)).alloc (.cells #[.slice AW n cW, .slice AM n cM, vV, .slice AG n cG] 64)).alloc (.cells #[.slice none 0 0, .slice none 0 0, .slice none 0 0, .slice none 0 0] 64) := ⟨_, rfl⟩
 have h6 : Blk W0 (B + 2) 64 #[.slice none 0 0, .slice none 0 0, .slice none 0 0, .slice none 0 0] := by
   rw [hW0, hB]; have := Blk.new ((w.alloc (.cells #[.int .i64 lr, .int .i64 mu, .int .i64 wd, .bool nest] 79)).alloc (.cells #[.slice AW n cW, .slice AM n cM, vV, .slice AG n cG] 64)) 64 #[.slice none 0 0, .slice none 0 0, .slice none 0 0, .slice none 0 0]
   simpa using this
 have h5 : Blk W0 (B + 1) 64 #[.slice AW n cW, .slice AM n cM, vV, .slice AG n cG] := by
   rw [hW0, hB]; have := Blk.new (w.alloc (.cells #[.int .i64 lr, .int .i64 mu, .int .i64 wd, .bool nest] 79)) 64 #[.slice AW n cW, .slice AM n cM, vV, .slice AG n cG]
   rw [World.size_alloc] at this
   exact this.alloc _
 have h4 : Blk W0 B 79 #[.int .i64 lr, .int .i64 mu, .int .i64 wd, .bool nest] := by
   rw [hW0, hB]; exact ((Blk.new w 79 #[.int .i64 lr, .int .i64 mu, .int .i64 wd, .bool nest]).alloc _).alloc _
 have hb0 : Below w.heap.size w W0 := by rw [hW0]; exact (((Below.refl _ w).alloc (Nat.le_refl _) _).alloc (by simp) _).alloc (by simp; omega) _
 rw [← hW0, ← hB]
 refine (hR _).mono ?_
 rintro x w1 ⟨rfl, b1⟩
 have h6 := h6.below b1 h6.lt
 have h5 := h5.below b1 h5.lt
 have h4 := h4.below b1 h4.lt
 have b1 := hb0.trans (b1.mono hb0.size)
 have hB2 : w.heap.size ≤ B + 2 := by omega
 clear hW0 hb0
 have l0 := h5.cell 0
 have l1 := h5.cell 1
 have l3 := h5.cell 3
 have m0 := h4.cell 0
 have m1 := h4.cell 1
 have m2 := h4.cell 2
 have m3 := h4.cell 3
 have HB := Lib.hid hB
 clear hB
 have z4 : B < w1.heap.size := h4.lt
 have z5 : B + 1 < w1.heap.size := h5.lt
 have z6 : B + 2 < w1.heap.size := h6.lt
 have y0 := World.new_ne w1 _ m0
 have y1 := World.new_ne w1 _ m1
 have y2 := World.new_ne w1 _ m2
 have y3 := World.new_ne w1 _ m3
 have hmk := run_make_i64 62 Tryz.underlying62 n n rfl (by omega)
 go_upto_region 7 with fail
 obtain ⟨R, hR0⟩ : ∃ R, R = w1.heap.size := ⟨_, rfl⟩
 obtain ⟨W2, hW2⟩ : ∃ W2, W2 = (w1.alloc (.cells #[.int .i64 f, .int .i64 0] 185)).alloc (.cells #[.pointer (some ⟨w1.heap.size, 0, none⟩), .int .i64 lr, .int .i64 mu, .int .i64 wd, .bool nest] 187) := ⟨_, rfl⟩
 have hrk : Rk W2 R f 0 := by rw [hW2, hR0]; exact (Blk.new w1 _ _).alloc _
 have hwk : Wk W2 (R + 1) R lr mu wd nest := by
   rw [hW2, hR0]
   have := Blk.new (w1.alloc (.cells #[.int .i64 f, .int .i64 0] 185)) 187 #[.pointer (some ⟨w1.heap.size, 0, none⟩), .int .i64 lr, .int .i64 mu, .int .i64 wd, .bool nest]
   rw [World.size_alloc] at this; exact this
 have h6 : Blk W2 (B + 2) 64 #[.slice none 0 0, .slice none 0 0, .slice none 0 0, .slice none 0 0] := by rw [hW2]; exact (h6.alloc _).alloc _
 have h5 : Blk W2 (B + 1) 64 #[.slice AW n cW, .slice AM n cM, vV, .slice AG n cG] := by rw [hW2]; exact (h5.alloc _).alloc _
 have b2 : Below w.heap.size w W2 := by rw [hW2]; exact (b1.alloc b1.size _).alloc (by have := b1.size; simp; omega) _
 have hsz2 : W2.heap.size = R + 2 := by rw [hW2, hR0]; simp
 have hRB : B + 2 < R := by rw [hR0]; exact z6
 rw [← hW2]
 rw [← hR0]
 have HS := Lib.hid hsz2
 clear hW2 hR0 hsz2 l0 l1 l3 m0 m1 m2 m3 z4 z5 z6 y0 y1 y2 y3 b1
 go_cut [10] (fun s wx => ∃ BO BW BM, s = .pointer (some ⟨BO, 0, none⟩) ∧ R + 2 ≤ BO ∧ R + 2 ≤ BW ∧ R + 2 ≤ BM ∧ BO ≠ BW ∧ BO ≠ BM ∧ BW ≠ BM ∧ Blk wx BO 64 #[.slice (some ⟨BW, 0, none⟩) n n, .slice (some ⟨BM, 0, none⟩) n n, .slice none 0 0, .slice none 0 0] ∧ IArr wx BW (List.replicate n 0) ∧ IArr wx BM (List.replicate n 0) ∧ Below W2.heap.size W2 wx)
 case first =>
   go_region
   all_goals (go_wp2_with fail; go_meet)
   all_goals
     have hsz2 := HS.out
     have hB3 : Below W2.heap.size W2 W2 := Below.refl _ _
     generalize hSS : W2.heap.size = S at *
     have t0 := fun x y z => three0 hSS x y z
     have t1 := fun x y z => three1 hSS x y z
     have t2 := fun x y z => three2 hSS x y z
     have tb := fun x y z => three_below hSS x y z
     first
       | exact ⟨_, S, S + 1, rfl, by omega, by omega, by omega, by omega, by omega, by omega, by first | exact t0 _ _ _ | exact t1 _ _ _ | exact t2 _ _ _, by first | exact t0 _ _ _ | exact t1 _ _ _ | exact t2 _ _ _, by first | exact t0 _ _ _ | exact t1 _ _ _ | exact t2 _ _ _, tb _ _ _⟩
       | exact ⟨_, S + 1, S, rfl, by omega, by omega, by omega, by omega, by omega, by omega, by first | exact t0 _ _ _ | exact t1 _ _ _ | exact t2 _ _ _, by first | exact t0 _ _ _ | exact t1 _ _ _ | exact t2 _ _ _, by first | exact t0 _ _ _ | exact t1 _ _ _ | exact t2 _ _ _, tb _ _ _⟩
       | exact ⟨_, S, S + 1 + 1, rfl, by omega, by omega, by omega, by omega, by omega, by omega, by first | exact t0 _ _ _ | exact t1 _ _ _ | exact t2 _ _ _, by first | exact t0 _ _ _ | exact t1 _ _ _ | exact t2 _ _ _, by first | exact t0 _ _ _ | exact t1 _ _ _ | exact t2 _ _ _, tb _ _ _⟩
       | exact ⟨_, S + 1 + 1, S, rfl, by omega, by omega, by omega, by omega, by omega, by omega, by first | exact t0 _ _ _ | exact t1 _ _ _ | exact t2 _ _ _, by first | exact t0 _ _ _ | exact t1 _ _ _ | exact t2 _ _ _, by first | exact t0 _ _ _ | exact t1 _ _ _ | exact t2 _ _ _, tb _ _ _⟩
       | exact ⟨_, S + 1, S + 1 + 1, rfl, by omega, by omega, by omega, by omega, by omega, by omega, by first | exact t0 _ _ _ | exact t1 _ _ _ | exact t2 _ _ _, by first | exact t0 _ _ _ | exact t1 _ _ _ | exact t2 _ _ _, by first | exact t0 _ _ _ | exact t1 _ _ _ | exact t2 _ _ _, tb _ _ _⟩
       | exact ⟨_, S + 1 + 1, S + 1, rfl, by omega, by omega, by omega, by omega, by omega, by omega, by first | exact t0 _ _ _ | exact t1 _ _ _ | exact t2 _ _ _, by first | exact t0 _ _ _ | exact t1 _ _ _ | exact t2 _ _ _, by first | exact t0 _ _ _ | exact t1 _ _ _ | exact t2 _ _ _, tb _ _ _⟩
 obtain ⟨BO, BW, BM, rfl, hO, hBW, hBM, ne1, ne2, ne3, hbO, haW, haM, b3⟩ := hcut
 go_wp2
 have hbz1 : B ≤ w.heap.size := by have := HB.out; omega
 have hbz2 : w.heap.size ≤ B := by have := HB.out; omega
 have hrk := hrk.below (w' := wc) (b3.mono (Nat.le_refl _))
 have hwk : Wk wc (R + 1) R lr mu wd nest := (b3.block _ hwk.lt).trans hwk
 have h6 := h6.below b3 h6.lt
 have h5 := h5.below b3 h5.lt
 have b3 := b2.trans (b3.mono b2.size)
 clear b2 HS
 go_loopw [46] (fun i wr => ∃ (k : Nat) (e : Int), k ≤ n ∧ i = .int .i64 k ∧ Hid (e = errTo lr mu wd nest f W M G k) ∧ Rk wr R f e ∧ Wk wr (R + 1) R lr mu wd nest ∧ Blk wr BO 64 #[.slice (some ⟨BW, 0, none⟩) n n, .slice (some ⟨BM, 0, none⟩) n n, .slice none 0 0, .slice none 0 0] ∧
   IArr wr BW (outTo (plW lr mu wd nest f W M G) k n) ∧ IArr wr BM (outTo (plV mu wd f W M G) k n) ∧ Blk wr (B + 1) 64 #[.slice AW n cW, .slice AM n cM, vV, .slice AG n cG] ∧ Blk wr (B + 2) 64 #[.slice none 0 0, .slice none 0 0, .slice none 0 0, .slice none 0 0] ∧ Below w.heap.size w wr) (fun i _ => n - (intOf i).toNat)
 case atStart => exact ⟨0, 0, by omega, rfl, Lib.hid rfl, hrk, hwk, hbO, by rw [outTo_zero]; exact haW, by rw [outTo_zero]; exact haM, h5, h6, b3⟩
 case round =>
   clear hrk hwk hbO haW haM h5 h6 b3
   obtain ⟨k, e, hk, rfl, he, hrk, hwk, hbO, haW, haM, h5, h6, b3⟩ := hrel
   by_cases hlt : k < n
   · obtain ⟨adW, rfl, xW, cWk⟩ := is_cell hRW hlt
     obtain ⟨adM, rfl, xM, cMk⟩ := is_cell hRM hlt
     obtain ⟨adG, rfl, xG, cGk⟩ := is_cell hRG hlt
     have hT : StepT wr BO BW BM R B n cW cM cG lr mu wd nest adW adM adG vV k (iat W k) (iat M k) (iat G k) :=
       ⟨hwk, hbO, h5, (b3.cell (by rw [block_of_add]; exact xW)).trans cWk, (b3.cell (by rw [block_of_add]; exact xM)).trans cMk, (b3.cell (by rw [block_of_add]; exact xG)).trans cGk⟩
     have hstep := fun w h => step_any R f e lr mu wd nest (iat W k) (iat M k) (iat G k) w hf h hlr hmu hwd (iW k) (iM k) (iG k)
     have hset1 := outTo_set (plW lr mu wd nest f W M G) k n
     have hset2 := outTo_set (plV mu wd f W M G) k n
     have hE : Hid (errTo lr mu wd nest f W M G (k + 1) = joinE e (stE lr mu wd nest f (iat W k) (iat M k) (iat G k))) := by rw [Hid, he.out]; rfl
     rw [show plW lr mu wd nest f W M G k = stW lr f (iat W k) (stU nest mu f (stD wd f (iat W k) (iat G k)) (stV mu f (iat M k) (stD wd f (iat W k) (iat G k)))) from rfl] at hset1
     rw [show plV mu wd f W M G k = stV mu f (iat M k) (stD wd f (iat W k) (iat G k)) from rfl] at hset2
     generalize stW lr f (iat W k) (stU nest mu f (stD wd f (iat W k) (iat G k)) (stV mu f (iat M k) (stD wd f (iat W k) (iat G k)))) = X at hstep hset1
     generalize stV mu f (iat M k) (stD wd f (iat W k) (iat G k)) = Y at hstep hset2
     generalize stE lr mu wd nest f (iat W k) (iat M k) (iat G k) = E' at hstep hE
     have hlW : (outTo (plW lr mu wd nest f W M G) k n).length = n := outTo_len _ _ _
     have hlM : (outTo (plV mu wd f W M G) k n).length = n := outTo_len _ _ _
     have Hset := Lib.hid (And.intro hset1 hset2)
     have HlW := Lib.hid hlW
     have HlM := Lib.hid hlM
     clear hset1 hset2 hlW hlM
     have i0 : (0 : Int) ≤ (k : Int) := by omega
     have i1 : (k : Int) < (n : Int) := by omega
     have hcw := haW.cell (i := k) (by rw [HlW.out]; exact hlt)
     have hcm := haM.cell (i := k) (by rw [HlM.out]; exact hlt)
     have hzw := haW.frozen k
     have hzm := haM.frozen k
     have hkeep1 : ∀ w', wr.drew.grownBy w' (some R) → StepT w' BO BW BM R B n cW cM cG lr mu wd nest adW adM adG vV k (iat W k) (iat M k) (iat G k) := fun w' hg => hT.far (fun i h1 _ _ h4 => hg.block i h4 (fun e => h1 (by injection e))) hBW hBM ne1 ne2 hO (by omega) (by omega) (by omega) (by omega) (by have := b3.size; omega)
     have hkW : ∀ w', wr.drew.grownBy w' (some R) → IArr w' BW (outTo (plW lr mu wd nest f W M G) k n) := fun w' hg => (hg.block BW haW.lt (fun e => by injection e; omega)).trans haW
     have hkM : ∀ w', wr.drew.grownBy w' (some R) → IArr w' BM (outTo (plV mu wd f W M G) k n) := fun w' hg => (hg.block BM haM.lt (fun e => by injection e; omega)).trans haM
     have hcW : ∀ w', IArr w' BW (outTo (plW lr mu wd nest f W M G) k n) → w'.cell? ⟨BW, k, none⟩ = some (.int .i64 (iat (outTo (plW lr mu wd nest f W M G) k n) k)) ∧ w'.frozen? ⟨BW, k, none⟩ = false := fun w' h => ⟨h.cell (by rw [HlW.out]; exact hlt), h.frozen k⟩
     have hcM : ∀ w', IArr w' BM (outTo (plV mu wd f W M G) k n) → w'.cell? ⟨BM, k, none⟩ = some (.int .i64 (iat (outTo (plV mu wd f W M G) k n) k)) ∧ w'.frozen? ⟨BM, k, none⟩ = false := fun w' h => ⟨h.cell (by rw [HlM.out]; exact hlt), h.frozen k⟩
     have hkS : ∀ w' g x, StepT w' BO BW BM R B n cW cM cG lr mu wd nest adW adM adG vV k (iat W k) (iat M k) (iat G k) → (g = BW ∨ g = BM) → StepT (w'.setCell ⟨g, k, none⟩ x) BO BW BM R B n cW cM cG lr mu wd nest adW adM adG vV k (iat W k) (iat M k) (iat G k) := fun w' g x h hg => h.set_ (by omega) (by omega) (by omega) (by omega) (by omega) (by omega) x
     generalize iat W k = a at *
     generalize iat M k = b at *
     generalize iat G k = c at *
     go_wp2
     go_region_held3 (fun w' => w'.cell? ⟨BO, 0, none⟩ = some (.slice (some ⟨BW, 0, none⟩) n n) ∧ w'.cell? ⟨BO, 1, none⟩ = some (.slice (some ⟨BM, 0, none⟩) n n) ∧
         w'.cell? ⟨R + 1, 0, none⟩ = some (.pointer (some ⟨R, 0, none⟩)) ∧ w'.cell? ⟨R + 1, 1, none⟩ = some (.int .i64 lr) ∧ w'.cell? ⟨R + 1, 2, none⟩ = some (.int .i64 mu) ∧ w'.cell? ⟨R + 1, 3, none⟩ = some (.int .i64 wd) ∧ w'.cell? ⟨R + 1, 4, none⟩ = some (.bool nest) ∧
         w'.cell? ⟨B + 1, 0, none⟩ = some (.slice (some adW) n cW) ∧ w'.cell? ⟨B + 1, 1, none⟩ = some (.slice (some adM) n cM) ∧ w'.cell? ⟨B + 1, 3, none⟩ = some (.slice (some adG) n cG) ∧
         w'.cell? (adW.add k) = some (.int .i64 a) ∧ w'.cell? (adM.add k) = some (.int .i64 b) ∧ w'.cell? (adG.add k) = some (.int .i64 c))
       (first | exact hT.cells | exact StepT.cells (by assumption) | exact StepT.cells (hkS _ _ _ (by assumption) (.inl rfl)) | exact StepT.cells (hkS _ _ _ (by assumption) (.inr rfl)) | exact StepT.cells (hkS _ _ _ (hkS _ _ _ (by assumption) (.inl rfl)) (.inr rfl)) | exact StepT.cells (hkS _ _ _ (hkS _ _ _ (by assumption) (.inr rfl)) (.inl rfl)))
       ((go_at_call 166; refine (hstep _ ?_).mono ?_; exact hrk; rintro x w9 ⟨rfl, hrk9, g9⟩; have hT9 := hkeep1 w9 g9; have haW9 := hkW w9 g9; have haM9 := hkM w9 g9; obtain ⟨cw9, fw9⟩ := hcW w9 haW9; obtain ⟨cm9, fm9⟩ := hcM w9 haM9; clear hkeep1 hkW hkM hcW hcM))
     go_wp2
     have hTf := hkS _ BM (.int .i64 Y) (hkS _ BW (.int .i64 X) hT9 (.inl rfl)) (.inr rfl)
     have hRf := (Below.heap_setCell (w9.setCell ⟨BW, k, none⟩ (.int .i64 X)) ⟨BM, k, none⟩ (.int .i64 Y) R (show R ≠ BM by omega)).trans ((Below.heap_setCell w9 ⟨BW, k, none⟩ (.int .i64 X) R (show R ≠ BW by omega)).trans hrk9)
     have hWf := (haW9.set k X).far (p := ⟨BM, k, none⟩) ne3 (.int .i64 Y)
     have hMf := (haM9.far (p := ⟨BW, k, none⟩) (Ne.symm ne3) (.int .i64 X)).set k Y
     rw [Hset.out.1] at hWf
     rw [Hset.out.2] at hMf
     have h6f : Blk ((w9.setCell ⟨BW, k, none⟩ (.int .i64 X)).setCell ⟨BM, k, none⟩ (.int .i64 Y)) (B + 2) 64 #[.slice none 0 0, .slice none 0 0, .slice none 0 0, .slice none 0 0] :=
       Blk.far (p := ⟨BM, k, none⟩) (Blk.far (p := ⟨BW, k, none⟩) (h6.drew.grown g9 (fun e => by injection e; omega)) (show B + 2 ≠ BW by omega) _) (show B + 2 ≠ BM by omega) _
     have b9 := ((b3.drew.grown g9 b3.size (fun j e => by injection e; omega)).setCell (p := ⟨BW, k, none⟩) (show w.heap.size ≤ BW by omega) (.int .i64 X)).setCell (p := ⟨BM, k, none⟩) (show w.heap.size ≤ BM by omega) (.int .i64 Y)
     exact ⟨⟨k + 1, joinE e E', by omega, by go_num, Lib.hid hE.out.symm, hRf, hTf.1, hTf.2.1, hWf, hMf, hTf.2.2.1, h6f, b9⟩, by simp [intOf]; omega⟩
   · obtain rfl : k = n := by omega
     have c0 := hwk.cells.1
     have c1 := hrk.cell1
     have q0 := h6.cell 0
     have q1 := h6.cell 1
     have q2 := h6.cell 2
     have q3 := h6.cell 3
     have z0 := h6.frozen 0
     have z1 := h6.frozen 1
     have z2 := h6.frozen 2
     have z3 := h6.frozen 3
     have o0 := hbO.cell 0
     have o1 := hbO.cell 1
     have o2 := hbO.cell 2
     have o3 := hbO.cell 3
     rw [outTo_all] at haW haM
     have aE := fun a b c d => Lib.hid ((((b3.setCell (p := ⟨B + 2, 0, none⟩) hB2 a).setCell (p := ⟨B + 2, 1, none⟩) hB2 b).setCell (p := ⟨B + 2, 2, none⟩) hB2 c).setCell (p := ⟨B + 2, 3, none⟩) hB2 d)
     have aW := fun a b c d => Lib.hid ((((haW.far (p := ⟨B + 2, 0, none⟩) (show _ ≠ B + 2 by omega) a).far (p := ⟨B + 2, 1, none⟩) (show _ ≠ B + 2 by omega) b).far (p := ⟨B + 2, 2, none⟩) (show _ ≠ B + 2 by omega) c).far (p := ⟨B + 2, 3, none⟩) (show _ ≠ B + 2 by omega) d)
     have aM := fun a b c d => Lib.hid ((((haM.far (p := ⟨B + 2, 0, none⟩) (show _ ≠ B + 2 by omega) a).far (p := ⟨B + 2, 1, none⟩) (show _ ≠ B + 2 by omega) b).far (p := ⟨B + 2, 2, none⟩) (show _ ≠ B + 2 by omega) c).far (p := ⟨B + 2, 3, none⟩) (show _ ≠ B + 2 by omega) d)
     by_cases h0 : e = 0
     · subst h0
       have hE := Lib.hid he.out.symm
       go_wp2
       refine bodyPost_ret (v := .tuple #[.agg #[.slice (some ⟨BW, 0, none⟩) k k, .slice (some ⟨BM, 0, none⟩) k k, .slice none 0 0, .slice none 0 0], .int .i64 0]) (by simp [results, Tryz.results104, go_sem, q0, q1, q2, q3]) rfl ⟨fun h => absurd hE.out h, fun _ => ⟨_, _, rfl, ?_, ?_⟩, (aE _ _ _ _).out⟩
       · exact ⟨_, _, rfl, by simp, by omega, (aW _ _ _ _).out⟩
       · exact ⟨_, _, rfl, by simp, by omega, (aM _ _ _ _).out⟩
     · have hne : (e == 0) = false := by simpa using h0
       have hne2 : (e != 0) = true := by simpa using h0
       have hE : Hid (errTo lr mu wd nest f W M G k ≠ 0) := Lib.hid (by rw [← he.out]; exact h0)
       clear h0
       go_wp2
       refine bodyPost_ret (v := .tuple #[.agg #[.slice none 0 0, .slice none 0 0, .slice none 0 0, .slice none 0 0], .int .i64 2]) (by simp [results, Tryz.results104, go_sem, q0, q1, q2, q3]) rfl ⟨fun _ => rfl, fun h => absurd h hE.out, (aE _ _ _ _).out⟩
end Go.Proofs.YtdnjdglekifhpaaGreat
namespace Go.Proofs.YtdnjdglekifhpaaGreat
open Go.ChangeShapes Go.WideShapes Go.ChangeAt Go.RowKit Go.Joins
def AllIn (l : List Int) : Prop := ∀ i, In64 (iat l i)
theorem AllIn.of_mem {l : List Int} (h : ∀ x ∈ l, In64 x) : AllIn l := by
 intro i
 by_cases hi : i < l.length
 · exact h _ (iat_mem hi)
 · unfold iat; rw [List.getElem?_eq_none (by omega)]; unfold In64; simp
theorem AllIn.mem {l : List Int} (h : AllIn l) {x : Int} (hx : x ∈ l) : In64 x := by
 obtain ⟨i, hi, rfl⟩ := List.getElem_of_mem hx
 have := h i
 unfold iat at this; rwa [List.getElem?_eq_getElem hi] at this
theorem AllIn.nil : AllIn [] := AllIn.of_mem (by simp)
section
variable {H : Type} {enc : TypeId × Value → H} {W : World}
def IsR (w : World) (v : Value) (A B C D : List Int) : Prop := ∃ a b c d, v = .agg #[a, b, c, d] ∧ IsI w a A ∧ IsI w b B ∧ IsI w c C ∧ IsI w d D
theorem IsR.below {w w' : World} {v : Value} {A B C D : List Int} (h : IsR w v A B C D) (hb : Below w.heap.size w w') : IsR w' v A B C D := by
 obtain ⟨a, b, c, d, e, h1, h2, h3, h4⟩ := h; exact ⟨a, b, c, d, e, h1.below hb, h2.below hb, h3.below hb, h4.below hb⟩
end
end Go.Proofs.YtdnjdglekifhpaaGreat
namespace Go.Proofs.YtdnjdglekifhpaaGreat
open Go.RowKit
attribute [local go_sem ↓] Go.wp_at_zero Go.wp_at_succ
def stErr (lr mu wd : Int) (nest : Bool) (f : Int) (W M G : List Int) : Int :=
 if rightM lr mu wd f = true then (if M.length = W.length ∧ G.length = W.length then (if errTo lr mu wd nest f.toNat W M G W.length = 0 then 0 else 2) else 5) else 1
def stWs (lr mu wd : Int) (nest : Bool) (f : Int) (W M G : List Int) : List Int := if stErr lr mu wd nest f W M G = 0 then (List.range W.length).map (plW lr mu wd nest f.toNat W M G) else []
def stMs (lr mu wd : Int) (nest : Bool) (f : Int) (W M G : List Int) : List Int := if stErr lr mu wd nest f W M G = 0 then (List.range W.length).map (plV mu wd f.toNat W M G) else []
theorem rightM_f {lr mu wd f : Int} (h : rightM lr mu wd f = true) : 0 ≤ f ∧ f ≤ 40 := by unfold rightM at h; have := of_decide_eq_true h; omega
theorem stWs_err {lr mu wd : Int} {nest : Bool} {f : Int} {W M G : List Int} (h : stErr lr mu wd nest f W M G ≠ 0) : stWs lr mu wd nest f W M G = [] := if_neg h
theorem stMs_err {lr mu wd : Int} {nest : Bool} {f : Int} {W M G : List Int} (h : stErr lr mu wd nest f W M G ≠ 0) : stMs lr mu wd nest f W M G = [] := if_neg h
theorem IsR.nils (w : World) : IsR w (.agg #[.slice none 0 0, .slice none 0 0, .slice none 0 0, .slice none 0 0]) [] [] [] [] := ⟨_, _, _, _, rfl, IsI.nil w, IsI.nil w, IsI.nil w, IsI.nil w⟩
theorem Step_all (lr mu wd f : Int) (nest : Bool) (v : Value) (W M V G : List Int) (w : World) (h : IsR w v W M V G) (hn : W.length ≤ 1000000)
   (hlr : In64 lr) (hmu : In64 mu) (hwd : In64 wd) (iW : AllIn W) (iM : AllIn M) (iG : AllIn G) :
   Calls Tryz.prog 104 #[.agg #[.int .i64 lr, .int .i64 mu, .int .i64 wd, .bool nest], .int .i64 f, v] w fun x w' =>
     ∃ r, x = .returned (.tuple #[r, .int .i64 (stErr lr mu wd nest f W M G)]) ∧ IsR w' r (stWs lr mu wd nest f W M G) (stMs lr mu wd nest f W M G) [] [] ∧ Below w.heap.size w w' := by
 obtain ⟨a, b, c, d, rfl, ha, hb, hc, hd⟩ := h
 by_cases hr : rightM lr mu wd f = true
 · by_cases hs : M.length = W.length ∧ G.length = W.length
   · obtain ⟨f0, f1⟩ := rightM_f hr
     obtain ⟨n, rfl⟩ := Int.eq_ofNat_of_zero_le f0
     refine (Step_runs lr mu wd n nest a b c d W M G w ha hb hd hr hs hn (by omega) hlr hmu hwd iW iM iG).mono ?_
     rintro x w' ⟨h1, h2, hB⟩
     unfold stWs stMs stErr
     rw [if_pos hr, if_pos hs, Int.toNat_natCast]
     by_cases he : errTo lr mu wd nest n W M G W.length = 0
     · obtain ⟨p, q, e, k1, k2⟩ := h2 he
       rw [if_pos he, if_pos rfl, if_pos rfl]
       exact ⟨_, e, ⟨p, q, _, _, rfl, k1.is, k2.is, IsI.nil _, IsI.nil _⟩, hB⟩
     · rw [if_neg he, if_neg (by decide), if_neg (by decide)]
       exact ⟨_, h1 he, IsR.nils _, hB⟩
   · refine (Step_shape lr mu wd f nest a b c d W M G w ha hb hd hr hs).mono ?_
     rintro x w' ⟨e, hB⟩
     unfold stWs stMs stErr
     rw [if_pos hr, if_neg hs, if_neg (by decide), if_neg (by decide)]
     exact ⟨_, e, IsR.nils _, hB⟩
 · refine (Step_wrong lr mu wd f nest a b c d W w ha (by simpa using hr)).mono ?_
   rintro x w' ⟨e, hB⟩
   unfold stWs stMs stErr
   rw [if_neg hr, if_neg (by decide), if_neg (by decide)]
   exact ⟨_, e, IsR.nils _, hB⟩
theorem Step_ok (lr mu wd f : Int) (nest : Bool) (v : Value) (W M V G : List Int) (w : World) (h : IsR w v W M V G) (hn : W.length ≤ 1000000)
   (hlr : In64 lr) (hmu : In64 mu) (hwd : In64 wd) (iW : AllIn W) (iM : AllIn M) (iG : AllIn G) (he : stErr lr mu wd nest f W M G = 0) :
   Calls Tryz.prog 104 #[.agg #[.int .i64 lr, .int .i64 mu, .int .i64 wd, .bool nest], .int .i64 f, v] w fun x w' =>
     ∃ a b, x = .returned (.tuple #[.agg #[a, b, .slice none 0 0, .slice none 0 0], .int .i64 0]) ∧ ArrI w' a ((List.range W.length).map (plW lr mu wd nest f.toNat W M G)) ∧ ArrI w' b ((List.range W.length).map (plV mu wd f.toNat W M G)) ∧ Below w.heap.size w w' := by
 obtain ⟨a, b, c, d, rfl, ha, hb, hc, hd⟩ := h
 unfold stErr at he
 by_cases hr : rightM lr mu wd f = true
 · rw [if_pos hr] at he
   by_cases hs : M.length = W.length ∧ G.length = W.length
   · rw [if_pos hs] at he
     obtain ⟨f0, f1⟩ := rightM_f hr
     obtain ⟨n, rfl⟩ := Int.eq_ofNat_of_zero_le f0
     rw [Int.toNat_natCast] at *
     refine (Step_runs lr mu wd n nest a b c d W M G w ha hb hd hr hs hn (by omega) hlr hmu hwd iW iM iG).mono ?_
     rintro x w' ⟨h1, h2, hB⟩
     by_cases h0 : errTo lr mu wd nest n W M G W.length = 0
     · obtain ⟨p, q, e, k1, k2⟩ := h2 h0
       exact ⟨p, q, e, k1, k2, hB⟩
     · rw [if_neg h0] at he; exact absurd he (by decide)
   · rw [if_neg hs] at he; exact absurd he (by decide)
 · rw [if_neg hr] at he; exact absurd he (by decide)
end Go.Proofs.YtdnjdglekifhpaaGreat
namespace Go.Proofs.YtdnjdglekifhpaaGreat
open Go.RowKit
def upd {α : Type} (f : Nat → α) (i : Nat) (x : α) : Nat → α := fun j => if j = i then x else f j
structure Out (w : World) (X B : Nat) (v : Nat → Value) (l : Nat → List Int) : Prop where
 box : Blk w X 64 #[v 0, v 1, v 2, v 3]
 own : ∀ i, i < 4 → w.ownsRow B 2 1 (v i) (l i).length (is (l i))
 far : ∀ i j, i < 4 → j < 4 → i ≠ j → (v i).ownBlock = none ∨ (v i).ownBlock ≠ (v j).ownBlock
section
variable {w w' : World} {X B : Nat} {v : Nat → Value} {l : Nat → List Int}
theorem own_type {e : TypeId} {n : Nat} {u : Value} {xs : List Value} {t : TypeId} {cs : Array Value} (h : w.ownsRow B e 1 u n xs) (hb : Blk w X t cs) (hne : t ≠ e) : u.ownBlock ≠ some X := by
 rcases h.2 with ⟨rfl, _⟩ | ⟨g, cap, cur, rfl, hg, hh, _⟩
 · simp [Value.ownBlock]
 · intro e2
   have : g = X := by simpa [Value.ownBlock] using e2
   subst this
   unfold Blk at hb
   rw [hh] at hb
   injection hb with hb
   injection hb with h1 h2 h3
   exact hne h2.symm
theorem Out.below (h : Out w X B v l) (hb : Below w.heap.size w w') : Out w' X B v l :=
 ⟨h.box.below hb h.box.lt, fun i hi => (h.own i hi).kept (row := none) ⟨hb.os, hb.tape, hb.output, hb.size, fun k hk _ => hb.block k hk⟩ (by cases (v i).ownBlock <;> simp), h.far⟩
theorem Out.alloc (h : Out w X B v l) (o : Obj) : Out (w.alloc o) X B v l := h.below ((Below.refl _ w).alloc (Nat.le_refl _) o)
theorem Out.drew (h : Out w X B v l) : Out w.drew X B v l := h.below (bdrew w)
theorem own_setCell {e : TypeId} {n : Nat} {u : Value} {xs : List Value} (h : w.ownsRow B e 1 u n xs) {p : Addr} (hp : u.ownBlock ≠ some p.block) (y : Value) : (w.setCell p y).ownsRow B e 1 u n xs := by
 refine h.kept (row := some p.block) ⟨rfl, rfl, rfl, by simp [World.setCell], fun k _ hne => Below.heap_setCell w p y k (fun e => hne (by rw [e]))⟩ (.inr hp)
def noI : Value → Bool
 | .int .i64 _ => false
 | _ => true
theorem IsI.keepBlk {R : Nat} {u : Value} {xs : List Int} {t : TypeId} {cs : Array Value} (h : IsI w u xs) (hR : Blk w R t cs) (hcs : cs.all noI = true) (hw : ∀ k, k ≠ R → w'.heap[k]? = w.heap[k]?) (hsz : w.heap.size ≤ w'.heap.size) : IsI w' u xs := by
 obtain ⟨A, c, rfl, h1, h2, h4⟩ := h
 refine ⟨A, c, rfl, h1, h2, h4.1, fun hn => ?_⟩
 obtain ⟨ad, rfl, hb, hc⟩ := h4.2 hn
 refine ⟨ad, rfl, by omega, fun j y hj => ?_⟩
 have hne : ad.block ≠ R := by
   intro e
   have hl := h4.1
   have h0 := hc 0 _ (is_at xs 0 (by rw [is_len] at hl; omega))
   obtain ⟨b, off, sp⟩ := ad
   dsimp only at e; subst e
   rw [Addr.add, if_pos rfl] at h0
   have hsp : sp = none := World.cell?_spot h0
   subst hsp
   rw [hR.cell] at h0
   have := Array.all_eq_true_iff_forall_mem.1 hcs _ (Array.mem_of_getElem? h0)
   simp [noI] at this
 rw [← hc j y hj]
 exact World.cell?_of_block (by rw [block_of_add]; exact hw _ hne)
theorem Out.push (h : Out w X B v l) (hX : 64 ≠ 2) {c : Nat} (hc : c < 4) {v' : Value} {x : Int} (hown : w'.ownsRow B 2 1 v' ((l c).length + 1) (is (l c) ++ [.int .i64 x]))
   (hg : w.grownBy w' (v c).ownBlock) (hat : (v c).ownBlock = v'.ownBlock ∨ v'.ownBlock = some w.heap.size) :
   Out (w'.setCell ⟨X, c, none⟩ v') X B (upd v c v') (upd l c (l c ++ [x])) := by
 have hXc : (v c).ownBlock ≠ some X := own_type (h.own c hc) h.box hX
 have hbox' : Blk w' X 64 #[v 0, v 1, v 2, v 3] := h.box.grown hg (fun e => hXc e.symm)
 have hX' : v'.ownBlock ≠ some X := own_type hown hbox' hX
 have hlt := h.box.lt
 have hkeep : ∀ i, i < 4 → i ≠ c → w'.ownsRow B 2 1 (v i) (l i).length (is (l i)) := fun i hi hne => (h.own i hi).kept hg (h.far i c hi hc hne)
 refine ⟨?_, ?_, ?_⟩
 · have := hbox'.set_ c v'
   obtain rfl | rfl | rfl | rfl : c = 0 ∨ c = 1 ∨ c = 2 ∨ c = 3 := by omega
   all_goals simpa [upd] using this
 · intro i hi
   by_cases he : i = c
   · subst he
     simp only [upd, if_true, List.length_append, List.length_singleton]
     rw [is_snoc]
     exact own_setCell hown (p := ⟨X, i, none⟩) hX' v'
   · simp only [upd, if_neg he]
     exact own_setCell (hkeep i hi he) (p := ⟨X, c, none⟩) (own_type (h.own i hi) h.box hX) v'
 · intro i j hi hj hne
   by_cases he : i = c
   · subst he
     simp only [upd, if_true, if_neg (Ne.symm hne)]
     rcases hat with hat | hat
     · rw [← hat]; exact h.far i j hi hj hne
     · right; rw [hat]; intro e
       have := ((h.own j hj).lt _ e.symm).2; omega
   · by_cases hj2 : j = c
     · subst hj2
       simp only [upd, if_true, if_neg he]
       rcases hat with hat | hat
       · rw [← hat]; exact h.far i j hi hj hne
       · right; rw [hat]; intro e
         have := ((h.own i hi).lt _ e).2; omega
     · simp only [upd, if_neg he, if_neg hj2]; exact h.far i j hi hj hne
theorem Out.start (w : World) (t : TypeId) (ht : t = 64) (_hB : B ≤ w.heap.size) : Out (w.alloc (.cells #[.slice none 0 0, .slice none 0 0, .slice none 0 0, .slice none 0 0] t)) w.heap.size B (fun _ => .slice none 0 0) (fun _ => []) := by
 subst ht
 exact ⟨Blk.new _ _ _, fun i _ => ⟨by simp [is], .inl ⟨rfl, rfl⟩⟩, fun i j _ _ _ => .inl rfl⟩
theorem Out.congr {l' : Nat → List Int} (h : Out w X B v l) (e : l 0 = l' 0 ∧ l 1 = l' 1 ∧ l 2 = l' 2 ∧ l 3 = l' 3) : Out w X B v l' := by
 refine ⟨h.box, fun i hi => ?_, h.far⟩
 have := h.own i hi
 obtain ⟨e0, e1, e2, e3⟩ := e
 obtain rfl | rfl | rfl | rfl : i = 0 ∨ i = 1 ∨ i = 2 ∨ i = 3 := by omega
 · rwa [← e0]
 · rwa [← e1]
 · rwa [← e2]
 · rwa [← e3]
theorem Out.rows (h : Out w X B v l) {i : Nat} (hi : i < 4) : IsI w (v i) (l i) := IsI.of_own (h.own i hi)
end
end Go.Proofs.YtdnjdglekifhpaaGreat
