/- The laws of layer 10: arguments opened; the live question. -/
import Derived.Test.YtgcebmgmmhdcpaaCode1
import Derived.OpenShut
namespace Go.Proofs.Ytgcebmgmmhdcpaa
open Go.ChangeShapes Go.WideShapes Go.ChangeAt Go.RowKit
theorem wf_I64 {n : Int} (h : (Lit.int .i64 n).wf = true) : I64 n := by
  have h1 : IntKind.i64.min = -9223372036854775808 := rfl
  have h2 : IntKind.i64.max = 9223372036854775807 := rfl
  simp only [Lit.wf, Bool.and_eq_true, decide_eq_true_eq] at h
  unfold I64
  omega
theorem wf_U8 {n : Int} (h : (Lit.int .u8 n).wf = true) : 0 ≤ n ∧ n < 256 := by
  have h1 : IntKind.u8.min = 0 := rfl
  have h2 : IntKind.u8.max = 255 := rfl
  simp only [Lit.wf, Bool.and_eq_true, decide_eq_true_eq] at h
  omega
theorem wf_U16 {n : Int} (h : (Lit.int .u16 n).wf = true) : 0 ≤ n ∧ n < 65536 := by
  have h1 : IntKind.u16.min = 0 := rfl
  have h2 : IntKind.u16.max = 65535 := rfl
  simp only [Lit.wf, Bool.and_eq_true, decide_eq_true_eq] at h
  omega
section
variable {H : Type} {enc : TypeId × Value → H} {P : Program} {w : World} {base : Nat} {sp : Nat → Bool} {held : Bool} {r : Reach}
theorem okWide_array {t e : TypeId} {n b0 : Nat} {v : Value} (ht : P.underlying t = some (.array n e)) (h : Value.okWide P w r b0 t v) : ∃ cs, v = .agg cs ∧ cs.size = P.cellsOf t := by
  simp only [Value.okWide, ht] at h
  obtain ⟨cs, h1, h2, _⟩ := h
  exact ⟨cs, h1, h2⟩
/-- an array of two integers, of three, opened -/
theorem open_arr2 {t e : TypeId} {b0 : Nat} {v : Value} {d : DataW H} {p : List MemPlace} (ht : P.underlying t = some (.array 2 e)) (he : P.underlying e = some (.int .i64)) (hc : P.cellsOf e = 1) (hC : P.cellsOf t = 2)
    (hv : Value.okWide P w r b0 t v) (h : DataW.Trod enc P w base sp held t v d p) : ∃ a b : Int, v = .agg #[.int .i64 a, .int .i64 b] ∧ I64 a ∧ I64 b := by
  obtain ⟨cs, rfl, hsz⟩ := okWide_array ht hv
  obtain ⟨l⟩ := cs
  rw [hC] at hsz
  match l, hsz with
  | [x, y], _ =>
    obtain ⟨fuel, hf⟩ := h
    obtain ⟨xs, m, _, _, _, _, h1⟩ := DataW.trod_array ht hf
    have a := h1 0 (by omega)
    have b := h1 1 (by omega)
    rw [hc] at a b
    have hx : ∀ i, i < 2 → ∃ u, xs[i]? = some u := fun i hi => by
      have : xs.length = 2 := by assumption
      exact ⟨_, List.getElem?_eq_getElem (by omega)⟩
    obtain ⟨u, hu⟩ := hx 0 (by omega)
    obtain ⟨u', hu'⟩ := hx 1 (by omega)
    rw [hu] at a
    rw [hu'] at b
    obtain ⟨n, e1, _, w1⟩ := DataW.trod_int he a
    obtain ⟨n', e2, _, w2⟩ := DataW.trod_int he b
    simp [Value.cells] at e1 e2
    subst e1 e2
    exact ⟨n, n', rfl, wf_I64 w1, wf_I64 w2⟩
theorem open_arr3 {t e : TypeId} {b0 : Nat} {v : Value} {d : DataW H} {p : List MemPlace} (ht : P.underlying t = some (.array 3 e)) (he : P.underlying e = some (.int .i64)) (hc : P.cellsOf e = 1) (hC : P.cellsOf t = 3)
    (hv : Value.okWide P w r b0 t v) (h : DataW.Trod enc P w base sp held t v d p) : ∃ a b c : Int, v = .agg #[.int .i64 a, .int .i64 b, .int .i64 c] ∧ I64 a ∧ I64 b ∧ I64 c := by
  obtain ⟨cs, rfl, hsz⟩ := okWide_array ht hv
  obtain ⟨l⟩ := cs
  rw [hC] at hsz
  match l, hsz with
  | [x, y, z], _ =>
    obtain ⟨fuel, hf⟩ := h
    obtain ⟨xs, m, _, _, _, _, h1⟩ := DataW.trod_array ht hf
    have a := h1 0 (by omega)
    have b := h1 1 (by omega)
    have c := h1 2 (by omega)
    rw [hc] at a b c
    have hx : ∀ i, i < 3 → ∃ u, xs[i]? = some u := fun i hi => by
      have : xs.length = 3 := by assumption
      exact ⟨_, List.getElem?_eq_getElem (by omega)⟩
    obtain ⟨u, hu⟩ := hx 0 (by omega)
    obtain ⟨u', hu'⟩ := hx 1 (by omega)
    obtain ⟨u'', hu''⟩ := hx 2 (by omega)
    rw [hu] at a
    rw [hu'] at b
    rw [hu''] at c
    obtain ⟨n, e1, _, w1⟩ := DataW.trod_int he a
    obtain ⟨n', e2, _, w2⟩ := DataW.trod_int he b
    obtain ⟨n'', e3, _, w3⟩ := DataW.trod_int he c
    simp [Value.cells] at e1 e2 e3
    subst e1 e2 e3
    exact ⟨n, n', n'', rfl, wf_I64 w1, wf_I64 w2, wf_I64 w3⟩
end
theorem alive10_vals : codeOf 3 1 2 = 127 ∧ codeE 3 1 2 = 0 ∧ codeE 3 (-1) 2 = 1 ∧ codeOf 3 (-1) 2 = 0 ∧ numOf 0 255 = 2560000000 ∧ bke 0 = 0 := by decide +kernel
end Go.Proofs.Ytgcebmgmmhdcpaa
