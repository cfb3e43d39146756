/- The arguments of layer 17's laws: a Mom, rows, an integer. -/
import Derived.Test.YtbnnonmkkkhepaaOpenR
namespace Go.Proofs.Ytbnnonmkkkhepaa
open Go.ChangeShapes Go.WideShapes Go.ChangeAt Go.RowKit
set_option maxRecDepth 100000 in
theorem walk17 (f : FuncId) (fn : Func) (hp : fn.params = #[23, 26, 3])
    (hall : ∀ (lr mu wd fr : Int) (nest : Bool) (v : Value) (A B C D : List Int) (w : World), IsR w v A B C D → In64 lr → In64 mu → In64 wd → In64 fr → AllIn A → AllIn B → AllIn C → AllIn D →
      A.length ≤ 17592186044416 → B.length ≤ 17592186044416 → C.length ≤ 17592186044416 → D.length ≤ 17592186044416 →
      Calls Try.prog f #[.agg #[.int .i64 lr, .int .i64 mu, .int .i64 wd, .bool nest], v, .int .i64 fr] w fun e w' => e = .returned (.bool true) ∧ Below w.heap.size w w') : LawWalk f fn := by
  intro W base args H enc ds p hval hA hlt hz
  rw [hp] at hA hval hz
  obtain ⟨vm, vr, vf, dm, dr, df, p0, p1, p2, rfl, rfl, rfl, hm, hr, hf⟩ := trodAll_three hA
  obtain ⟨lr, mu, wd, nest, rfl, h1, h2, h3⟩ := open_mom (hval 0 23 vm rfl rfl) hm
  have hz' : ∀ n ∈ DataW.weightsEach Try.prog [23, 26, 3] [dm, dr, df], n ≤ reachBytes := by
    intro n hn
    have := List.all_eq_true.1 hz n hn
    simpa using this
  obtain ⟨A, B, C, D, hR, ⟨iA, iB, iC, iD⟩, l1, l2, l3, l4⟩ := open_rows (hval 1 26 vr rfl rfl) hr (fun x hx => hlt x (by simp [hx])) (weights_at hz' (j := 1) rfl rfl)
  obtain ⟨n, rfl, rfl, rfl, wn⟩ := open_int Try.underlying3 (hval 2 3 vf rfl rfl) hf
  exact hall lr mu wd n nest vr A B C D W hR h1 h2 h3 (wf_i64 wn) iA iB iC iD l1 l2 l3 l4
end Go.Proofs.Ytbnnonmkkkhepaa
