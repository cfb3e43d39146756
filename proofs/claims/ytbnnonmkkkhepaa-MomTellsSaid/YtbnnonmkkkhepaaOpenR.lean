/- Arguments of a law opened: integers of 64 bits, rows of them, Moms. -/
import Derived.Test.YtbnnonmkkkhepaaLawRow
import Derived.Test.YtbnnonmkkkhepaaMom1
import Derived.Test.YtbnnonmkkkhepaaApp
import Derived.Lib.SmallJoins
namespace Go.Proofs.Ytbnnonmkkkhepaa
open Go.ChangeShapes Go.WideShapes Go.ChangeAt Go.RowKit Go.Joins
def AllIn (l : List Int) : Prop := ∀ i, In64 (iat l i)
theorem wf_i64 {n : Int} (h : (Lit.int .i64 n).wf = true) : In64 n := by
  have h1 : IntKind.i64.min = -9223372036854775808 := rfl
  have h2 : IntKind.i64.max = 9223372036854775807 := rfl
  simp only [Lit.wf, Bool.and_eq_true, decide_eq_true_eq] at h
  unfold In64
  omega
theorem AllIn.of_mem {l : List Int} (h : ∀ x ∈ l, In64 x) : AllIn l := by
  intro i
  by_cases hi : i < l.length
  · exact h _ (iat_mem hi)
  · unfold iat; rw [List.getElem?_eq_none (by omega)]; unfold In64; simp
theorem AllIn.mem {l : List Int} (h : AllIn l) {x : Int} (hx : x ∈ l) : In64 x := by
  obtain ⟨i, hi, rfl⟩ := List.getElem_of_mem hx
  have := h i
  unfold iat at this; rwa [List.getElem?_eq_getElem hi] at this
theorem AllIn.nil : AllIn [] := AllIn.of_mem (by simp)
theorem bytes_i64 : Try.prog.bytesOf 2 = 8 := by kernel_rfl
section
variable {H : Type} {enc : TypeId × Value → H} {W : World}
set_option maxRecDepth 100000 in
theorem open_i64c {t : TypeId} {fuel : Nat} {v : Value} {x : DataW H × List MemPlace} (ht : Try.prog.underlying t = some (.slice 2))
    (h : DataW.trod enc Try.prog W 0 (fun _ => true) true fuel t [v] = some x) (hlt : ∀ p ∈ x.2, p.block < W.heap.size) (hz : ∀ n ∈ x.1.weights Try.prog t, n ≤ reachBytes) : ∃ l, IsI W v l ∧ AllIn l ∧ l.length ≤ 17592186044416 := by
  rcases open_ints ht Try.underlying2 (by kernel_rfl : Try.prog.cellsOf 2 = 1) h with ⟨hcs, hx⟩ | ⟨a, len, cap, zs, hcs, _, hl, hm, hzl, hx, hcell, hwz⟩
  · simp at hcs
    subst hcs
    exact ⟨[], IsI.nil W, AllIn.nil, by simp⟩
  · simp at hcs
    subst hcs
    subst hx
    simp only [if_true] at hzl
    unfold maxLen at hm
    have hll : (zs.take len).length = len := by simp; omega
    refine ⟨zs.take len, ⟨some a, cap, by rw [hll], by omega, by omega, ?_⟩, AllIn.of_mem (fun n hn => wf_i64 (hwz n (List.mem_of_mem_take hn))), ?_⟩
    · rw [hll]
      refine ⟨by rw [is_len, hll]; omega, fun h0 => ⟨a, rfl, ?_, fun j u hu => ?_⟩⟩
      · obtain ⟨b, off, spot⟩ := a
        have hspot : spot = none := by simpa [Addr.add] using World.cell?_spot (hcell 0 (by omega))
        subst hspot
        exact hlt (.cell b off) (MemPlace.mem_row.2 ⟨0, by omega, by simp⟩)
      · have hj : j < len := by
          rcases Nat.lt_or_ge j len with h' | h'
          · exact h'
          · rw [List.getElem?_eq_none (by rw [is_len, hll]; exact h')] at hu; cases hu
        have hjz : j < zs.length := by omega
        rw [hcell j hjz]
        rw [is_at _ j (by rw [hll]; exact hj)] at hu
        rw [← Option.some.inj hu]
        have e : zs.getD j 0 = zs[j] := by simp [List.getD, hjz]
        have e2 : iat (zs.take len) j = zs[j] := by simp [iat, hj, hjz]
        rw [e, e2]
    · have := hz (((lits .i64 (zs.take len) : List (DataW H)).length + (lits .i64 (zs.drop len) : List (DataW H)).length) * Try.prog.bytesOf 2) (by simp [DataW.weights, ht])
      rw [bytes_i64] at this
      have e1 : (lits .i64 (zs.take len) : List (DataW H)).length = len := by unfold lits; rw [List.length_map, hll]
      have e2 : reachBytes = 140737488351232 := rfl
      have : (zs.take len).length * 8 ≤ reachBytes := by
        rw [hll]
        rw [e1] at this
        exact Nat.le_trans (Nat.mul_le_mul_right 8 (Nat.le_add_right _ _)) this
      omega
theorem weights_at {P : Program} {ts : List TypeId} {ds : List (DataW H)} {B : Nat} (h : ∀ n ∈ DataW.weightsEach P ts ds, n ≤ B) {j : Nat} {t : TypeId} {d : DataW H} (ht : ts[j]? = some t) (hd : ds[j]? = some d) : ∀ n ∈ d.weights P t, n ≤ B :=
  fun n hn => h n (DataW.weights_mem_each ht hd n hn)
/-- the value is rows of numbers -/
def IsR (w : World) (v : Value) (A B C D : List Int) : Prop := ∃ a b c d, v = .agg #[a, b, c, d] ∧ IsI w a A ∧ IsI w b B ∧ IsI w c C ∧ IsI w d D
theorem IsR.below {w w' : World} {v : Value} {A B C D : List Int} (h : IsR w v A B C D) (hb : Below w.heap.size w w') : IsR w' v A B C D := by
  obtain ⟨a, b, c, d, e, h1, h2, h3, h4⟩ := h; exact ⟨a, b, c, d, e, h1.below hb, h2.below hb, h3.below hb, h4.below hb⟩
set_option maxRecDepth 100000 in
theorem open_rows {base : Nat} {v : Value} {d : DataW H} {p : List MemPlace} (hv : Value.okWide Try.prog W .any base 26 v) (h : DataW.Trod enc Try.prog W 0 (fun _ => true) true 26 v d p)
    (hlt : ∀ x ∈ p, x.block < W.heap.size) (hz : ∀ n ∈ d.weights Try.prog 26, n ≤ reachBytes) :
    ∃ A B C D, IsR W v A B C D ∧ (AllIn A ∧ AllIn B ∧ AllIn C ∧ AllIn D) ∧ A.length ≤ 17592186044416 ∧ B.length ≤ 17592186044416 ∧ C.length ≤ 17592186044416 ∧ D.length ≤ 17592186044416 := by
  obtain ⟨v0, v1, v2, v3, y0, y1, y2, y3, n, rfl, rfl, rfl, h0, h1, h2, h3⟩ := open_agg4 Try.underlying26 (by kernel_rfl) (by kernel_rfl) hv h
  have hz' : ∀ n ∈ DataW.weightsEach Try.prog [24, 24, 24, 24] [y0.1, y1.1, y2.1, y3.1], n ≤ reachBytes := by
    have e := Try.underlying26
    simp only [DataW.weights, e] at hz
    exact hz
  have s0 := open_i64c Try.underlying24 h0 (fun p hp => hlt p (by simp [hp])) (weights_at hz' (j := 0) rfl rfl)
  have s1 := open_i64c Try.underlying24 h1 (fun p hp => hlt p (by simp [hp])) (weights_at hz' (j := 1) rfl rfl)
  have s2 := open_i64c Try.underlying24 h2 (fun p hp => hlt p (by simp [hp])) (weights_at hz' (j := 2) rfl rfl)
  have s3 := open_i64c Try.underlying24 h3 (fun p hp => hlt p (by simp [hp])) (weights_at hz' (j := 3) rfl rfl)
  obtain ⟨A, iA, aA, lA⟩ := s0
  obtain ⟨B, iB, aB, lB⟩ := s1
  obtain ⟨C, iC, aC, lC⟩ := s2
  obtain ⟨D, iD, aD, lD⟩ := s3
  exact ⟨A, B, C, D, ⟨v0, v1, v2, v3, rfl, iA, iB, iC, iD⟩, ⟨aA, aB, aC, aD⟩, lA, lB, lC, lD⟩
set_option maxRecDepth 100000 in
theorem open_mom {base : Nat} {v : Value} {d : DataW H} {p : List MemPlace} (hv : Value.okWide Try.prog W .any base 23 v) (h : DataW.Trod enc Try.prog W 0 (fun _ => true) true 23 v d p) :
    ∃ (lr mu wd : Int) (nest : Bool), v = .agg #[.int .i64 lr, .int .i64 mu, .int .i64 wd, .bool nest] ∧ In64 lr ∧ In64 mu ∧ In64 wd := by
  obtain ⟨v0, v1, v2, v3, y0, y1, y2, y3, n, rfl, rfl, rfl, h0, h1, h2, h3⟩ := open_agg4 Try.underlying23 (by kernel_rfl) (by kernel_rfl) hv h
  obtain ⟨lr, e0, _, w0⟩ := DataW.trod_int Try.underlying2 h0
  obtain ⟨mu, e1, _, w1⟩ := DataW.trod_int Try.underlying2 h1
  obtain ⟨wd, e2, _, w2⟩ := DataW.trod_int Try.underlying2 h2
  obtain ⟨ne, e3, _⟩ := DataW.trod_bool Try.underlying4 h3
  simp at e0 e1 e2 e3
  subst e0 e1 e2 e3
  exact ⟨lr, mu, wd, ne, rfl, wf_i64 w0, wf_i64 w1, wf_i64 w2⟩
end
end Go.Proofs.Ytbnnonmkkkhepaa
