/- An integer that came in, opened: its side, and its limbs. Printed by gen_openz.py. -/
import Derived.Test.YtooonjcpdbbniaaGreatDoorLawRow
import Derived.Test.YtooonjcpdbbniaaGreatDoorZedW
namespace Go.Proofs.YtooonjcpdbbniaaGreatDoor
open Go.ChangeShapes Go.WideShapes Go.ChangeAt Go.RowKit
set_option maxRecDepth 100000 in
theorem open_limbs_c {H : Type} {enc : TypeId × Value → H} {W : World} {t : TypeId} {v : Value} {fuel : Nat} {x : DataW H × List MemPlace} (ht : Tryz.prog.underlying t = some (.slice 44))
    (h : DataW.trod enc Tryz.prog W 0 (fun _ => true) true fuel t [v] = some x) (hlt : ∀ p ∈ x.2, p.block < W.heap.size) : ∃ l, IsL W v l := by
  rcases open_ints ht Tryz.underlying44 (by kernel_rfl : Tryz.prog.cellsOf 44 = 1) h with ⟨hcs, hx⟩ | ⟨a, len, cap, zs, hcs, _, hl, hm, hz, hx, hcell, hwz⟩
  · obtain rfl : v = _ := by simpa using hcs
    exact ⟨[], IsL.nil W⟩
  · obtain rfl : v = _ := by simpa using hcs
    subst hx
    simp only at hlt
    simp only [if_true] at hz
    unfold maxLen at hm
    have hll : ((zs.take len).map Int.toNat).length = len := by simp; omega
    refine ⟨(zs.take len).map Int.toNat, some a, cap, by rw [hll], by omega, by omega, ?_, ?_⟩
    · intro x hx
      obtain ⟨z, hz', rfl⟩ := List.mem_map.1 hx
      have := wf_u64 (hwz z (List.mem_of_mem_take hz'))
      omega
    · rw [hll]
      refine ⟨by rw [us_len, hll]; omega, fun h0 => ⟨a, rfl, ?_, fun j u hu => ?_⟩⟩
      · obtain ⟨b, off, spot⟩ := a
        have hspot : spot = none := by simpa [Addr.add] using World.cell?_spot (hcell 0 (by omega))
        subst hspot
        exact hlt (.cell b off) (MemPlace.mem_row.2 ⟨0, by omega, by simp⟩)
      · have hj : j < len := by
          rcases Nat.lt_or_ge j len with h' | h'
          · exact h'
          · rw [List.getElem?_eq_none (by rw [us_len, hll]; exact h')] at hu; cases hu
        have hjz : j < zs.length := by omega
        have hwf := wf_u64 (hwz _ (List.getElem_mem hjz))
        rw [hcell j hjz]
        rw [us_at _ j (by rw [hll]; exact hj)] at hu
        rw [← Option.some.inj hu]
        have e : zs.getD j 0 = zs[j] := by simp [List.getD, hjz]
        have e2 : ((zs.take len).map Int.toNat)[j]?.getD 0 = (zs[j]).toNat := by simp [hj, hjz]
        rw [e, e2]
        congr 2
        omega
theorem cells_zed : Tryz.prog.cellsOf 25 = 2 := by kernel_rfl
theorem cells_boolz : Tryz.prog.cellsOf 4 = 1 := by kernel_rfl
theorem cells_natz : Tryz.prog.cellsOf 23 = 1 := by kernel_rfl
set_option maxRecDepth 100000 in
theorem open_zed {H : Type} {enc : TypeId × Value → H} {W : World} {base : Nat} {v : Value} {d : DataW H} {p : List MemPlace} (hv : Value.okWide Tryz.prog W .any base 25 v) (h : DataW.Trod enc Tryz.prog W 0 (fun _ => true) true 25 v d p)
    (hlt : ∀ x ∈ p, x.block < W.heap.size) : ∃ b nv l, v = .agg #[.bool b, nv] ∧ IsL W nv l := by
  obtain ⟨cs, rfl, hsz⟩ := okWide_struct Tryz.underlying25 hv
  obtain ⟨l⟩ := cs
  match l, hsz.trans cells_zed with
  | [c0, c1], _ =>
    obtain ⟨fuel, hf⟩ := h
    obtain ⟨xs, n, _, hx, _, hlen, hg⟩ := DataW.trod_struct Tryz.underlying25 hf
    match xs, hlen with
    | [y0, y1], _ =>
      obtain ⟨rfl, rfl⟩ := Prod.mk.inj hx
      have a0 : DataW.trod enc Tryz.prog W 0 (fun _ => true) true n 4 (([c0, c1].drop 0).take (Tryz.prog.cellsOf 4)) = some y0 := hg 0 _ rfl
      have a1 : DataW.trod enc Tryz.prog W 0 (fun _ => true) true n 23 (([c0, c1].drop 1).take (Tryz.prog.cellsOf 23)) = some y1 := hg 1 _ rfl
      rw [cells_boolz] at a0
      rw [cells_natz] at a1
      obtain ⟨b, e0, _⟩ := DataW.trod_bool Tryz.underlying4 a0
      simp at e0
      subst e0
      obtain ⟨l, hl⟩ := open_limbs_c Tryz.underlying23 a1 (fun p hp => hlt p (by simp [hp]))
      exact ⟨b, c1, l, rfl, hl⟩
end Go.Proofs.YtooonjcpdbbniaaGreatDoor
