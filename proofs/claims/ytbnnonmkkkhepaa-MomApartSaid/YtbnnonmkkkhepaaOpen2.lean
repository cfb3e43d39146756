/- Rows in two parts, opened: an array's value is one row of all its cells. -/
import Derived.Test.YtbnnonmkkkhepaaOpenR
namespace Go.Proofs.Ytbnnonmkkkhepaa
open Go.ChangeShapes Go.WideShapes Go.ChangeAt Go.RowKit
section
variable {H : Type} {enc : TypeId × Value → H} {W : World}
theorem cells_sl : Try.prog.cellsOf 24 = 1 := by kernel_rfl
set_option maxRecDepth 100000 in
theorem open_rows4c {fuel : Nat} {c0 c1 c2 c3 : Value} {x : DataW H × List MemPlace} (h : DataW.trod enc Try.prog W 0 (fun _ => true) true fuel 26 [c0, c1, c2, c3] = some x)
    (hlt : ∀ p ∈ x.2, p.block < W.heap.size) (hz : ∀ n ∈ x.1.weights Try.prog 26, n ≤ reachBytes) :
    ∃ A B C D, IsR W (.agg #[c0, c1, c2, c3]) A B C D ∧ (AllIn A ∧ AllIn B ∧ AllIn C ∧ AllIn D) ∧ A.length ≤ 17592186044416 ∧ B.length ≤ 17592186044416 ∧ C.length ≤ 17592186044416 ∧ D.length ≤ 17592186044416 := by
  obtain ⟨xs, n, rfl, rfl, _, hl, h1⟩ := DataW.trod_struct Try.underlying26 h
  match xs, hl with
  | [y0, y1, y2, y3], _ =>
    have a0 : DataW.trod enc Try.prog W 0 (fun _ => true) true n 24 [c0] = some y0 := by
      have this : DataW.trod enc Try.prog W 0 (fun _ => true) true n 24 (([c0, c1, c2, c3].drop 0).take (Try.prog.cellsOf 24)) = some y0 := h1 0 _ rfl
      rw [cells_sl] at this
      exact this
    have a1 : DataW.trod enc Try.prog W 0 (fun _ => true) true n 24 [c1] = some y1 := by
      have this : DataW.trod enc Try.prog W 0 (fun _ => true) true n 24 (([c0, c1, c2, c3].drop 1).take (Try.prog.cellsOf 24)) = some y1 := h1 1 _ rfl
      rw [cells_sl] at this
      exact this
    have a2 : DataW.trod enc Try.prog W 0 (fun _ => true) true n 24 [c2] = some y2 := by
      have this : DataW.trod enc Try.prog W 0 (fun _ => true) true n 24 (([c0, c1, c2, c3].drop 2).take (Try.prog.cellsOf 24)) = some y2 := h1 2 _ rfl
      rw [cells_sl] at this
      exact this
    have a3 : DataW.trod enc Try.prog W 0 (fun _ => true) true n 24 [c3] = some y3 := by
      have this : DataW.trod enc Try.prog W 0 (fun _ => true) true n 24 (([c0, c1, c2, c3].drop 3).take (Try.prog.cellsOf 24)) = some y3 := h1 3 _ rfl
      rw [cells_sl] at this
      exact this
    have hz' : ∀ n ∈ DataW.weightsEach Try.prog [24, 24, 24, 24] [y0.1, y1.1, y2.1, y3.1], n ≤ reachBytes := by
      have e := Try.underlying26
      simp only [DataW.weights, e] at hz
      exact hz
    obtain ⟨A, iA, aA, lA⟩ := open_i64c Try.underlying24 a0 (fun p hp => hlt p (by simp [hp])) (weights_at hz' (j := 0) rfl rfl)
    obtain ⟨B, iB, aB, lB⟩ := open_i64c Try.underlying24 a1 (fun p hp => hlt p (by simp [hp])) (weights_at hz' (j := 1) rfl rfl)
    obtain ⟨C, iC, aC, lC⟩ := open_i64c Try.underlying24 a2 (fun p hp => hlt p (by simp [hp])) (weights_at hz' (j := 2) rfl rfl)
    obtain ⟨D, iD, aD, lD⟩ := open_i64c Try.underlying24 a3 (fun p hp => hlt p (by simp [hp])) (weights_at hz' (j := 3) rfl rfl)
    exact ⟨A, B, C, D, ⟨_, _, _, _, rfl, iA, iB, iC, iD⟩, ⟨aA, aB, aC, aD⟩, lA, lB, lC, lD⟩
theorem cells_rows : Try.prog.cellsOf 26 = 4 := by kernel_rfl
theorem cells_rows2 : Try.prog.cellsOf 46 = 8 := by kernel_rfl
/-- short rows of numbers -/
def Short (A B C D : List Int) : Prop := (AllIn A ∧ AllIn B ∧ AllIn C ∧ AllIn D) ∧ A.length ≤ 17592186044416 ∧ B.length ≤ 17592186044416 ∧ C.length ≤ 17592186044416 ∧ D.length ≤ 17592186044416
set_option maxRecDepth 100000 in
theorem open_rows2 {base : Nat} {v : Value} {d : DataW H} {p : List MemPlace} (hv : Value.okWide Try.prog W .any base 46 v) (h : DataW.Trod enc Try.prog W 0 (fun _ => true) true 46 v d p)
    (hlt : ∀ x ∈ p, x.block < W.heap.size) (hz : ∀ n ∈ d.weights Try.prog 46, n ≤ reachBytes) :
    ∃ c0 c1 c2 c3 c4 c5 c6 c7 A B C D A' B' C' D', v = .agg #[c0, c1, c2, c3, c4, c5, c6, c7] ∧ IsR W (.agg #[c0, c1, c2, c3]) A B C D ∧ IsR W (.agg #[c4, c5, c6, c7]) A' B' C' D' ∧ Short A B C D ∧ Short A' B' C' D' := by
  have hv' : ∃ cs, v = .agg cs ∧ cs.size = Try.prog.cellsOf 46 := by
    have e := Try.underlying46
    simp only [Value.okWide, e] at hv
    obtain ⟨cs, h1, h2, _⟩ := hv
    exact ⟨cs, h1, h2⟩
  obtain ⟨⟨l⟩, rfl, hsz⟩ := hv'
  rw [cells_rows2] at hsz
  match l, hsz with
  | [c0, c1, c2, c3, c4, c5, c6, c7], _ =>
    obtain ⟨fuel, hf⟩ := h
    obtain ⟨xs, m, _, hxp, _, hl, h1⟩ := DataW.trod_array Try.underlying46 hf
    match xs, hl with
    | [y0, y1], _ =>
      obtain ⟨rfl, rfl⟩ := Prod.mk.inj hxp
      have a0 : DataW.trod enc Try.prog W 0 (fun _ => true) true m 26 (([c0, c1, c2, c3, c4, c5, c6, c7].drop (0 * Try.prog.cellsOf 26)).take (Try.prog.cellsOf 26)) = some y0 := h1 0 (by omega)
      have a1 : DataW.trod enc Try.prog W 0 (fun _ => true) true m 26 (([c0, c1, c2, c3, c4, c5, c6, c7].drop (1 * Try.prog.cellsOf 26)).take (Try.prog.cellsOf 26)) = some y1 := h1 1 (by omega)
      rw [cells_rows] at a0 a1
      have e := Try.underlying46
      simp only [DataW.weights, e] at hz
      obtain ⟨A, B, C, D, hR, hs, l1, l2, l3, l4⟩ := open_rows4c a0 (fun p hp => hlt p (by simp [hp])) (fun n hn => hz n (by simp [DataW.weightsAll, hn]))
      obtain ⟨A', B', C', D', hR', hs', k1, k2, k3, k4⟩ := open_rows4c a1 (fun p hp => hlt p (by simp [hp])) (fun n hn => hz n (by simp [DataW.weightsAll, hn]))
      exact ⟨_, _, _, _, _, _, _, _, A, B, C, D, A', B', C', D', rfl, hR, hR', ⟨hs, l1, l2, l3, l4⟩, ⟨hs', k1, k2, k3, k4⟩⟩
end
set_option maxRecDepth 100000 in
theorem walk17two (f : FuncId) (fn : Func) (hp : fn.params = #[23, 46, 3])
    (hall : ∀ (lr mu wd fr : Int) (nest : Bool) (c0 c1 c2 c3 c4 c5 c6 c7 : Value) (A B C D A' B' C' D' : List Int) (w : World), IsR w (.agg #[c0, c1, c2, c3]) A B C D → IsR w (.agg #[c4, c5, c6, c7]) A' B' C' D' → In64 lr → In64 mu → In64 wd → In64 fr → Short A B C D → Short A' B' C' D' →
      Calls Try.prog f #[.agg #[.int .i64 lr, .int .i64 mu, .int .i64 wd, .bool nest], .agg #[c0, c1, c2, c3, c4, c5, c6, c7], .int .i64 fr] w fun e w' => e = .returned (.bool true) ∧ Below w.heap.size w w') : LawWalk f fn := by
  intro W base args H enc ds p hval hA hlt hz
  rw [hp] at hA hval hz
  obtain ⟨vm, vr, vf, dm, dr, df, p0, p1, p2, rfl, rfl, rfl, hm, hr, hf⟩ := trodAll_three hA
  obtain ⟨lr, mu, wd, nest, rfl, h1, h2, h3⟩ := open_mom (hval 0 23 vm rfl rfl) hm
  have hz' : ∀ n ∈ DataW.weightsEach Try.prog [23, 46, 3] [dm, dr, df], n ≤ reachBytes := by
    intro n hn
    have := List.all_eq_true.1 hz n hn
    simpa using this
  obtain ⟨c0, c1, c2, c3, c4, c5, c6, c7, A, B, C, D, A', B', C', D', rfl, hR, hR', hs, hs'⟩ := open_rows2 (hval 1 46 vr rfl rfl) hr (fun x hx => hlt x (by simp [hx])) (weights_at hz' (j := 1) rfl rfl)
  obtain ⟨n, rfl, rfl, rfl, wn⟩ := open_int Try.underlying3 (hval 2 3 vf rfl rfl) hf
  exact hall lr mu wd n nest c0 c1 c2 c3 c4 c5 c6 c7 A B C D A' B' C' D' W hR hR' h1 h2 h3 (wf_i64 wn) hs hs'
end Go.Proofs.Ytbnnonmkkkhepaa
