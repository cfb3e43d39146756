/- Layer 11: the live question; arguments opened. Printed by gen_blk5.py. -/
import Derived.Test.YtochabikpaoalaaGreatBlock3
import Derived.Test.YtochabikpaoalaaGreatLaw09
import Derived.Lib.SmallJoins
namespace Go.Proofs.YtochabikpaoalaaGreat
open Go.ChangeShapes Go.WideShapes Go.ChangeAt Go.RowKit Go.Joins
attribute [local go_sem ↓] Go.wp_at_zero Go.wp_at_succ
theorem bytes_i64k : Tryz.prog.bytesOf 2 = 8 := by kernel_rfl
theorem bytes_u8k : Tryz.prog.bytesOf 5 = 1 := by kernel_rfl
section
variable {H : Type} {enc : TypeId × Value → H} {W : World}
theorem weights_at11 {P : Program} {ts : List TypeId} {ds : List (DataW H)} {B : Nat} (h : ∀ n ∈ DataW.weightsEach P ts ds, n ≤ B) {j : Nat} {t : TypeId} {d : DataW H} (ht : ts[j]? = some t) (hd : ds[j]? = some d) : ∀ n ∈ d.weights P t, n ≤ B :=
  fun n hn => h n (DataW.weights_mem_each ht hd n hn)
set_option maxRecDepth 100000 in
theorem open_i64k {t : TypeId} {fuel : Nat} {v : Value} {x : DataW H × List MemPlace} (ht : Tryz.prog.underlying t = some (.slice 2))
    (h : DataW.trod enc Tryz.prog W 0 (fun _ => true) true fuel t [v] = some x) (hlt : ∀ p ∈ x.2, p.block < W.heap.size) (hz : ∀ n ∈ x.1.weights Tryz.prog t, n ≤ reachBytes) : ∃ l, IsI W v l ∧ (∀ n ∈ l, I64 n) ∧ l.length ≤ 17592186044416 := by
  rcases open_ints ht Tryz.underlying2 (by kernel_rfl : Tryz.prog.cellsOf 2 = 1) h with ⟨hcs, hx⟩ | ⟨a, len, cap, zs, hcs, _, hl, hm, hzl, hx, hcell, hwz⟩
  · simp at hcs
    subst hcs
    exact ⟨[], IsI.nil W, by simp, by simp⟩
  · simp at hcs
    subst hcs
    subst hx
    simp only [if_true] at hzl
    unfold maxLen at hm
    have hll : (zs.take len).length = len := by simp; omega
    refine ⟨zs.take len, ⟨some a, cap, by rw [hll], by omega, by omega, ?_⟩, fun n hn => wf_I64 (hwz n (List.mem_of_mem_take hn)), ?_⟩
    · rw [hll]
      refine ⟨by rw [is_len, hll]; omega, fun h0 => ⟨a, rfl, ?_, fun j u hu => ?_⟩⟩
      · obtain ⟨b, off, spot⟩ := a
        have hspot : spot = none := by simpa [Addr.add] using World.cell?_spot (hcell 0 (by omega))
        subst hspot
        exact hlt (.cell b off) (MemPlace.mem_row.2 ⟨0, by omega, by simp⟩)
      · have hj : j < len := by
          rcases Nat.lt_or_ge j len with h' | h'
          · exact h'
          · rw [List.getElem?_eq_none (by rw [is_len, hll]; exact h')] at hu; cases hu
        have hjz : j < zs.length := by omega
        rw [hcell j hjz]
        rw [is_at _ j (by rw [hll]; exact hj)] at hu
        rw [← Option.some.inj hu]
        have e : zs.getD j 0 = zs[j] := by simp [List.getD, hjz]
        have e2 : iat (zs.take len) j = zs[j] := by simp [iat, hj, hjz]
        rw [e, e2]
    · have := hz (((lits .i64 (zs.take len) : List (DataW H)).length + (lits .i64 (zs.drop len) : List (DataW H)).length) * Tryz.prog.bytesOf 2) (by simp [DataW.weights, ht])
      rw [bytes_i64k] at this
      have e1 : (lits .i64 (zs.take len) : List (DataW H)).length = len := by unfold lits; rw [List.length_map, hll]
      have e2 : reachBytes = 140737488351232 := rfl
      have : (zs.take len).length * 8 ≤ reachBytes := by
        rw [hll]
        rw [e1] at this
        exact Nat.le_trans (Nat.mul_le_mul_right 8 (Nat.le_add_right _ _)) this
      omega
theorem nums_of {zs : List Int} (h : ∀ n ∈ zs, 0 ≤ n) : (zs.map Int.toNat).map (fun n : Nat => (n : Int)) = zs := by
  rw [List.map_map]
  conv => rhs; rw [← List.map_id zs]
  exact List.map_congr_left fun n hn => by have := h n hn; simp; omega
set_option maxRecDepth 100000 in
theorem open_u8k {t : TypeId} {fuel : Nat} {v : Value} {x : DataW H × List MemPlace} (ht : Tryz.prog.underlying t = some (.slice 5))
    (h : DataW.trod enc Tryz.prog W 0 (fun _ => true) true fuel t [v] = some x) (hlt : ∀ p ∈ x.2, p.block < W.heap.size) (hz : ∀ n ∈ x.1.weights Tryz.prog t, n ≤ reachBytes) : ∃ l, IsY W v l ∧ l.length ≤ 140737488351232 := by
  rcases open_ints ht Tryz.underlying5 (by kernel_rfl : Tryz.prog.cellsOf 5 = 1) h with ⟨hcs, hx⟩ | ⟨a, len, cap, zs, hcs, _, hl, hm, hzl, hx, hcell, hwz⟩
  · simp at hcs
    subst hcs
    exact ⟨[], IsY.nil W, by simp⟩
  · simp at hcs
    subst hcs
    subst hx
    simp only [if_true] at hzl
    unfold maxLen at hm
    have hll : ((zs.take len).map Int.toNat).length = len := by simp; omega
    refine ⟨(zs.take len).map Int.toNat, ⟨some a, cap, by rw [hll], by omega, by omega, fun n hn => ?_, ?_⟩, ?_⟩
    · obtain ⟨z, hz', rfl⟩ := List.mem_map.1 hn
      have := wf_U8 (hwz z (List.mem_of_mem_take hz'))
      omega
    · rw [hll]
      refine ⟨by rw [ys_len, hll]; omega, fun h0 => ⟨a, rfl, ?_, fun j u hu => ?_⟩⟩
      · obtain ⟨b, off, spot⟩ := a
        have hspot : spot = none := by simpa [Addr.add] using World.cell?_spot (hcell 0 (by omega))
        subst hspot
        exact hlt (.cell b off) (MemPlace.mem_row.2 ⟨0, by omega, by simp⟩)
      · have hj : j < len := by
          rcases Nat.lt_or_ge j len with h' | h'
          · exact h'
          · rw [List.getElem?_eq_none (by rw [ys_len, hll]; exact h')] at hu; cases hu
        have hjz : j < zs.length := by omega
        rw [hcell j hjz]
        rw [ys_at _ j (by rw [hll]; exact hj)] at hu
        rw [← Option.some.inj hu]
        have e : zs.getD j 0 = zs[j] := by simp [List.getD, hjz]
        have hmem : zs[j] ∈ zs := List.getElem_mem hjz
        have hpos := (wf_U8 (hwz _ hmem)).1
        have e2 : yat ((zs.take len).map Int.toNat) j = (zs[j]).toNat := by simp [yat, hj, hjz]
        rw [e, e2]
        congr 2
        omega
    · have := hz (((lits .u8 (zs.take len) : List (DataW H)).length + (lits .u8 (zs.drop len) : List (DataW H)).length) * Tryz.prog.bytesOf 5) (by simp [DataW.weights, ht])
      rw [bytes_u8k, Nat.mul_one] at this
      have e1 : (lits .u8 (zs.take len) : List (DataW H)).length = len := by unfold lits; rw [List.length_map]; simp; omega
      have e2 : reachBytes = 140737488351232 := rfl
      rw [hll]
      omega
set_option maxRecDepth 100000 in
theorem open_block {base : Nat} {v : Value} {d : DataW H} {p : List MemPlace} (hv : Value.okWide Tryz.prog W .any base 43 v) (h : DataW.Trod enc Tryz.prog W 0 (fun _ => true) true 43 v d p)
    (hlt : ∀ x ∈ p, x.block < W.heap.size) (hz : ∀ n ∈ d.weights Tryz.prog 43, n ≤ reachBytes) :
    ∃ k s cs wd, IsBk W v k s cs wd ∧ I64 k ∧ I64 s ∧ (∀ x ∈ wd, I64 x) ∧ cs.length ≤ 140737488351232 ∧ wd.length ≤ 17592186044416 := by
  obtain ⟨v0, v1, v2, v3, y0, y1, y2, y3, n, rfl, rfl, rfl, h0, h1, h2, h3⟩ := open_agg4 Tryz.underlying43 (by kernel_rfl) (by kernel_rfl) hv h
  have hz' : ∀ n ∈ DataW.weightsEach Tryz.prog [3, 2, 41, 34] [y0.1, y1.1, y2.1, y3.1], n ≤ reachBytes := by
    have e := Tryz.underlying43
    simp only [DataW.weights, e] at hz
    exact hz
  obtain ⟨k, e0, _, w0⟩ := DataW.trod_int Tryz.underlying3 h0
  obtain ⟨s, e1, _, w1⟩ := DataW.trod_int Tryz.underlying2 h1
  simp at e0 e1
  subst e0 e1
  obtain ⟨cs, iC, lC⟩ := open_u8k Tryz.underlying41 h2 (fun p hp => hlt p (by simp [hp])) (weights_at11 hz' (j := 2) rfl rfl)
  obtain ⟨wd, iD, aD, lD⟩ := open_i64k Tryz.underlying34 h3 (fun p hp => hlt p (by simp [hp])) (weights_at11 hz' (j := 3) rfl rfl)
  exact ⟨k, s, cs, wd, ⟨v2, v3, rfl, iC, iD⟩, wf_I64 w0, wf_I64 w1, aD, lC, lD⟩
end
theorem litI (w : World) (l : List Int) (hl : l.length ≤ 1000) : ∃ W, W = w.alloc (.cells (is l).toArray 2) ∧ IsI W (.slice (some ⟨w.heap.size, 0, none⟩) l.length l.length) l ∧ Below w.heap.size w W :=
  ⟨_, rfl, IsI.fresh w _ l (by omega), (Below.refl _ w).alloc (Nat.le_refl _) _⟩
theorem lit010 (w : World) : ∃ W, W = w.alloc (.cells #[.int .i64 0, .int .i64 5, .int .i64 10] 2) ∧ IsI W (.slice (some ⟨w.heap.size, 0, none⟩) 3 3) [0, 5, 10] ∧ Below w.heap.size w W := litI w [0, 5, 10] (by simp)
theorem litm1 (w : World) : ∃ W, W = w.alloc (.cells #[.int .i64 (-1)] 2) ∧ IsI W (.slice (some ⟨w.heap.size, 0, none⟩) 1 1) [-1] ∧ Below w.heap.size w W := litI w [-1] (by simp)
theorem alive11_vals : great [0, 5, 10] = 10 ∧ packC 3 [0, 5, 10] = [0, 127, 255] ∧ loadC 3 10 [0, 127, 255] = [0, 5, 10] ∧ blkR 3 10 [0, 127, 255] [] = true ∧ [(0 : Int), 5, 10].any (oddB (sgn ((3 : Nat) : Int))) = false ∧ [(-1 : Int)].any (oddB (sgn 3)) = true := by decide +kernel
end Go.Proofs.YtochabikpaoalaaGreat
