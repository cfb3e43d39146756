/- Arguments of a law opened: limbs that came in. -/
import Derived.Test.YtegemdeejbdfpaaLawRow
import Derived.Test.YtegemdeejbdfpaaApp
namespace Go.Proofs.Ytegemdeejbdfpaa
open Go.ChangeShapes Go.WideShapes Go.ChangeAt Go.RowKit
theorem wf_u64 {n : Int} (h : (Lit.int .u64 n).wf = true) : 0 ≤ n ∧ n < (W64 : Int) := by
  have h1 : IntKind.u64.min = 0 := rfl
  have h2 : IntKind.u64.max = 18446744073709551615 := rfl
  simp only [Lit.wf, Bool.and_eq_true, decide_eq_true_eq] at h
  unfold W64
  omega
set_option maxRecDepth 100000 in
theorem open_limbs {H : Type} {enc : TypeId × Value → H} {W : World} {base : Nat} {t : TypeId} {v : Value} {d : DataW H} {p : List MemPlace} (ht : Try.prog.underlying t = some (.slice 56))
    (hv : Value.okWide Try.prog W .any base t v) (h : DataW.Trod enc Try.prog W 0 (fun _ => true) true t v d p) (hlt : ∀ x ∈ p, x.block < W.heap.size) : ∃ l, IsL W v l := by
  obtain ⟨a0, len, cap, rfl⟩ := okWide_slice ht hv
  obtain ⟨fuel, hf⟩ := h
  rcases open_ints ht Try.underlying56 (by kernel_rfl : Try.prog.cellsOf 56 = 1) hf with ⟨hcs, hx⟩ | ⟨a, len', cap', zs, hcs, _, hl, hm, hz, hx, hcell, hwz⟩
  · simp [Value.cells] at hcs
    obtain ⟨rfl, rfl, rfl⟩ := hcs
    exact ⟨[], IsL.nil W⟩
  · simp [Value.cells] at hcs
    obtain ⟨rfl, rfl, rfl⟩ := hcs
    simp only [Prod.mk.injEq] at hx
    obtain ⟨_, rfl⟩ := hx
    simp only [if_true] at hz
    unfold maxLen at hm
    have hll : ((zs.take len).map Int.toNat).length = len := by simp; omega
    refine ⟨(zs.take len).map Int.toNat, some a, cap, by rw [hll], by omega, by omega, ?_, ?_⟩
    · intro x hx
      obtain ⟨z, hz', rfl⟩ := List.mem_map.1 hx
      have := wf_u64 (hwz z (List.mem_of_mem_take hz'))
      omega
    · rw [hll]
      refine ⟨by rw [us_len, hll]; omega, fun h0 => ⟨a, rfl, ?_, fun j u hu => ?_⟩⟩
      · obtain ⟨b, off, spot⟩ := a
        have hspot : spot = none := by simpa [Addr.add] using World.cell?_spot (hcell 0 (by omega))
        subst hspot
        exact hlt (.cell b off) (MemPlace.mem_row.2 ⟨0, by omega, by simp⟩)
      · have hj : j < len := by
          rcases Nat.lt_or_ge j len with h' | h'
          · exact h'
          · rw [List.getElem?_eq_none (by rw [us_len, hll]; exact h')] at hu; cases hu
        have hjz : j < zs.length := by omega
        have hwf := wf_u64 (hwz _ (List.getElem_mem hjz))
        rw [hcell j hjz]
        rw [us_at _ j (by rw [hll]; exact hj)] at hu
        rw [← Option.some.inj hu]
        have e : zs.getD j 0 = zs[j] := by simp [List.getD, hjz]
        have e2 : ((zs.take len).map Int.toNat)[j]?.getD 0 = (zs[j]).toNat := by simp [hj, hjz]
        rw [e, e2]
        congr 2
        omega
end Go.Proofs.Ytegemdeejbdfpaa
