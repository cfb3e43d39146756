/- The laws of layer 11: a row of integers that came in, opened. -/
import Derived.Test.YtochabikpaoalaaGreatBlock5
namespace Go.Proofs.YtochabikpaoalaaGreat
open Go.ChangeShapes Go.WideShapes Go.ChangeAt Go.RowKit
set_option maxRecDepth 100000 in
theorem open_i64w {H : Type} {enc : TypeId × Value → H} {W : World} {base : Nat} {t : TypeId} {v : Value} {d : DataW H} {p : List MemPlace} (ht : Tryz.prog.underlying t = some (.slice 2))
    (hv : Value.okWide Tryz.prog W .any base t v) (h : DataW.Trod enc Tryz.prog W 0 (fun _ => true) true t v d p) (hlt : ∀ x ∈ p, x.block < W.heap.size) (hz : ∀ n ∈ d.weights Tryz.prog t, n ≤ reachBytes) : ∃ l, IsI W v l ∧ (∀ n ∈ l, I64 n) ∧ l.length ≤ 17592186044416 := by
  obtain ⟨a0, len, cap, rfl⟩ := okWide_slice ht hv
  obtain ⟨fuel, hf⟩ := h
  have hf' : DataW.trod enc Tryz.prog W 0 (fun _ => true) true fuel t [.slice a0 len cap] = some (d, p) := by simpa [Value.cells] using hf
  exact open_i64k ht hf' hlt hz
end Go.Proofs.YtochabikpaoalaaGreat
