/- The card of ZedOrder: of two the other way round, and if both are; of three it goes on; sums keep it; small ones are what they are. No conditions: every input. -/
import Derived.Test.YtooonjcpdbbniaaDoorOrder04
import Derived.Test.YtooonjcpdbbniaaDoorRow04
import Derived.Test.YtooonjcpdbbniaaDoorOpenZ
import Derived.Test.YtooonjcpdbbniaaDoorRows
import Derived.Test.YtooonjcpdbbniaaDoorTie
import Derived.Test.YtooonjcpdbbniaaDoorCards
import Derived.ChangeMaps5
namespace Go.Proofs.YtooonjcpdbbniaaDoor
open Go.ChangeShapes Go.WideShapes Go.ChangeAt Go.RowKit Go.Lib
theorem wf_in64 {n : Int} (h : (Lit.int .i64 n).wf = true) : -9223372036854775808 ≤ n ∧ n ≤ 9223372036854775807 := by
  have h1 : IntKind.i64.min = -9223372036854775808 := rfl
  have h2 : IntKind.i64.max = 9223372036854775807 := rfl
  simp only [Lit.wf, Bool.and_eq_true, decide_eq_true_eq] at h
  omega
section
variable {H : Type} {enc : TypeId × Value → H} {P : Program} {w : World} {base : Nat} {sp : Nat → Bool} {held : Bool} {r : Reach}
theorem okWide_array {t e : TypeId} {n b0 : Nat} {v : Value} (ht : P.underlying t = some (.array n e)) (h : Value.okWide P w r b0 t v) : ∃ cs, v = .agg cs ∧ cs.size = P.cellsOf t := by
  simp only [Value.okWide, ht] at h
  obtain ⟨cs, h1, h2, _⟩ := h
  exact ⟨cs, h1, h2⟩
/-- an array of two integers opened -/
theorem open_arr2 {t e : TypeId} {b0 : Nat} {v : Value} {d : DataW H} {p : List MemPlace} (ht : P.underlying t = some (.array 2 e)) (he : P.underlying e = some (.int .i64)) (hc : P.cellsOf e = 1) (hC : P.cellsOf t = 2)
    (hv : Value.okWide P w r b0 t v) (h : DataW.Trod enc P w base sp held t v d p) : ∃ a b : Int, v = .agg #[.int .i64 a, .int .i64 b] ∧ (-9223372036854775808 ≤ a ∧ a ≤ 9223372036854775807) ∧ (-9223372036854775808 ≤ b ∧ b ≤ 9223372036854775807) := by
  obtain ⟨cs, rfl, hsz⟩ := okWide_array ht hv
  obtain ⟨l⟩ := cs
  rw [hC] at hsz
  match l, hsz with
  | [x, y], _ =>
    obtain ⟨fuel, hf⟩ := h
    obtain ⟨xs, m, _, _, _, _, h1⟩ := DataW.trod_array ht hf
    have a := h1 0 (by omega)
    have b := h1 1 (by omega)
    rw [hc] at a b
    have hx : ∀ i, i < 2 → ∃ u, xs[i]? = some u := fun i hi => by
      have : xs.length = 2 := by assumption
      exact ⟨_, List.getElem?_eq_getElem (by omega)⟩
    obtain ⟨u, hu⟩ := hx 0 (by omega)
    obtain ⟨u', hu'⟩ := hx 1 (by omega)
    rw [hu] at a
    rw [hu'] at b
    obtain ⟨n, e1, _, w1⟩ := DataW.trod_int he a
    obtain ⟨n', e2, _, w2⟩ := DataW.trod_int he b
    simp [Value.cells] at e1 e2
    subst e1 e2
    exact ⟨n, n', rfl, wf_in64 w1, wf_in64 w2⟩
end
set_option maxRecDepth 100000 in
theorem ZedOrder_walk : LawWalkL 5 Tryd.f5 (fun w => laidMetH Tryd.prog Rows.zedOrderRow.laid w) := by
  intro W base args H enc ds p hval hA hlt _ hX
  have ht : TabOk W := tab_of_laid hX
  rw [show Tryd.f5.params.toList = [25, 25, 38] from rfl] at hA
  obtain ⟨va, vb, vc, da, db, dc, pa, pb, pc, rfl, rfl, rfl, ha, hb, hc⟩ := trodAll_three hA
  obtain ⟨m0, m1, rfl, i0, i1⟩ := open_arr2 Tryd.underlying38 Tryd.underlying2 (by kernel_rfl) (by kernel_rfl) (hval 2 38 vc rfl rfl) hc
  obtain ⟨b1, v1, l1, rfl, h1⟩ := open_zed (hval 0 25 va rfl rfl) ha (fun x hx => hlt x (by simp [hx]))
  obtain ⟨b2, v2, l2, rfl, h2⟩ := open_zed (hval 1 25 vb rfl rfl) hb (fun x hx => hlt x (by simp [hx]))
  exact ZedOrder_all b1 b2 v1 v2 l1 l2 m0 m1 W h1 h2 i0 i1 ht
set_option maxRecDepth 100000 in
/-- the row -/
theorem ZedOrder_holds : Rows.ZedOrderSaid :=
  OpenClaim.holds_of_wide 5 Tryd.f5 rfl rfl rfl rfl rfl rfl rfl ⟨rfl, rfl, rfl, rfl, rfl⟩ rfl rfl rfl rfl rfl (by kernel_rfl) Tryd.func5 (by kernel_rfl)
    (of_decide_eq_true (by kernel_rfl)) (by unfold Func.isWrapper; first | (rw [if_pos (by decide +kernel)]; kernel_rfl) | (rw [if_neg (by decide +kernel)]; exact ⟨rfl, rfl⟩))
    (fun os started H enc _ => law_lifted_laid 5 Tryd.f5 Rows.zedOrderSpec Rows.zedOrderRow.domain rfl rfl rfl (fun w => laidMetH Tryd.prog Rows.zedOrderRow.laid w) (fun _ _ hh h => h.of_heap hh) Tryd.func5 (by kernel_rfl) (by decide +kernel)
      (fun H ds h => by
        have h' : ds.length = 3 := h
        match ds, h' with
        | [_, _, _], _ => exact ⟨rfl, rfl, rfl⟩)
      (fun os _ H enc => ChangeSpec.witness_shaped (enc := enc) (C := Tryd.checked) (os := os) (X := fun w _ => laidMetH Tryd.prog Rows.zedOrderRow.laid w) false (World.doorLaid Tryd.prog 400 os) #[.agg #[.bool false, .slice none 0 0], .agg #[.bool false, .slice none 0 0], .agg #[.int .i64 0, .int .i64 0]] 8 rfl (World.shaped_of_RefB (by kernel_rfl) (by kernel_rfl)) (by kernel_rfl) (by kernel_rfl) (by kernel_rfl) (door_met os _))
      ZedOrder_walk os started H enc)
set_option maxRecDepth 100000 in
/-- the given statement: the tied card -/
theorem ZedOrderCard_holds : Rows.ZedOrderCardSaid :=
  Claim7.holds_tied_plain_at .later [] [.data, .data, .data, .sentinel, .sentinel] true Rows.zedOrderCard.stood.harness true
    ZedOrder_holds (fun _ h => by cases h) (by kernel_rfl) (fun _ h => by cases h) zedOrder_row_tie rfl ⟨rfl, rfl⟩ (by kernel_rfl) rfl
    (fun f fn hf hfn => by
      obtain rfl : f = 5 := Option.some.inj ((show Tryd.prog.funcNamed Rows.zedOrderRow.func = some 5 by kernel_rfl).symm.trans hf) |>.symm
      obtain rfl : fn = Tryd.f5 := (Option.some.inj (Tryd.func5.symm.trans hfn)).symm
      exact ⟨by kernel_rfl, fun j t ht => by
        rw [show Tryd.f5.params = #[25, 25, 38] from rfl] at ht
        have hm : t ∈ [25, 25, 38] := by simpa using Array.mem_of_getElem? ht
        have hall : ([25, 25, 38].all fun u => !Tryd.prog.wantsStandIn u) = true := by kernel_rfl
        exact (show Tryd.prog.wantsStandIn t = false by simpa using List.all_eq_true.1 hall t hm)⟩)
    (by kernel_rfl)
end Go.Proofs.YtooonjcpdbbniaaDoor
