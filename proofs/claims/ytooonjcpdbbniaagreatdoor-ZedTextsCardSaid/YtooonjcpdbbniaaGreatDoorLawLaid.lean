/- How a law over variables that start-up code lays becomes the given row: as law_lifted, with one condition more on the first world. -/
import Derived.Test.YtooonjcpdbbniaaGreatDoorLawRow
import Derived.LaidLaws
import Derived.LaidMore
namespace Go.Proofs.YtooonjcpdbbniaaGreatDoor
open Go.ChangeShapes Go.WideShapes Go.ChangeAt Go.RowKit
/-- what a law owes, where the condition X holds of the first world -/
def LawWalkL (f : FuncId) (fn : Func) (X : World → Prop) : Prop :=
  ∀ (W : World) (base : Nat) (args : Array Value) (H : Type) (enc : TypeId × Value → H) (ds : List (DataW H)) (p : List MemPlace),
    (∀ (j : Nat) t v, fn.params[j]? = some t → args[j]? = some v → Value.okWide Tryz.prog W .any base t v) →
    DataW.TrodAll enc Tryz.prog W 0 (fun _ => true) true fn.params.toList args.toList ds p → (∀ x ∈ p, x.block < W.heap.size) →
    (DataW.weightsEach Tryz.prog fn.params.toList ds).all (· ≤ reachBytes) = true → X W →
    Calls Tryz.prog f args W fun e W' => e = .returned (.bool true) ∧ Below W.heap.size W W'
set_option maxRecDepth 100000 in
theorem law_lifted_laid (f : FuncId) (fn : Func) (s : ChangeSpec) (conds : List PathCond) (_ : conds = []) (hvars : s.vars = []) (hres : fn.resultTypes = #[4]) (X : World → Prop) (hX : ∀ w w' : World, w.heap = w'.heap → X w → X w')
    (hfn : Tryz.prog.funcs[f]? = some fn) (noInit : Tryz.checked.prog.inits.idxOf? f = none) (hread : ∀ t ∈ fn.params.toList, Tryz.prog.readableRec t = true ∧ t < Tryz.prog.types.size)
    (hs : ∀ (H : Type) (ds : List (DataW H)), ds.length = fn.params.toList.length → (s.fn H ds).results = [.lit (.bool true)] ∧ (s.fn H ds).args = ds ∧ (s.fn H ds).vars = [])
    (wit : ∀ (os : Os), os.Started → ∀ (H : Type) (enc : TypeId × Value → H), ∃ (w : World) (tape : Tape) (i : Input), w.os = os ∧ (w.forCall tape i).Shaped Tryz.checked.prog ∧ i.vars = [] ∧ Input.okWide Tryz.checked.prog (w.forCall tape i) .any w.heap.size f i ∧
      ((s.pre enc Tryz.checked.prog fn conds false (w.forCall tape i).memory i.args ∧ X (w.forCall tape i).memory) ∧ sizedMet enc Tryz.checked.prog fn (OpenSpec.ofChange s) false (w.forCall tape i).memory i.args) ∧ ({} : Assume).holds Tryz.checked.prog (lone (Frame.enter Tryz.checked.prog f i.args .normal) [] (w.forCall tape i)))
    (walk : LawWalkL f fn X) (os : Os) (started : os.Started) (H : Type) (enc : TypeId × Value → H) :
    ReturnsInHanded {} Tryz.checked os f .any (fun w args => (s.pre enc Tryz.prog fn conds false w args ∧ X w) ∧ sizedMet enc Tryz.prog fn (OpenSpec.ofChange s) false w args) (s.post enc Tryz.prog fn false true false false) := by
  refine returnsInHanded_of_change_and (C := Tryz.checked) (X := fun w _ => X w) (fun w w' _ hh h => hX w w' hh h) Tryz.own started noInit hfn (wit os started H enc) ?_
  intro W base args ds gs before hval hW _ hsz hL _
  have hW' := hW
  obtain ⟨p, q, hA, hV, rfl, _, _⟩ := hW
  rw [hvars] at hV
  obtain ⟨rfl, rfl⟩ := trodVars_none hV
  have hlt : ∀ x ∈ p, x.block < W.heap.size := fun x hx => hW'.lt x (by simpa using hx)
  have hlen : ds.length = fn.params.toList.length := trodAll_len hA
  obtain ⟨e1, e2, e3⟩ := hs H ds hlen
  have hsz' : (DataW.weightsEach Tryz.prog fn.params.toList ds).all (· ≤ reachBytes) = true := by
    have hv : s.plain.varTypes Tryz.checked.prog = [] := by simp [ChangeSpec.plain, hvars, DataSpec.varTypes]
    rw [hv, List.append_nil, List.append_nil] at hsz
    exact hsz
  refine (walk W base args H enc ds p hval hA hlt hsz' hL).mono fun e W' ⟨he, hb⟩ => ?_
  subst he
  refine ⟨_, rfl, post_of_below (pa := p) (pv := []) hW' (fun _ _ _ => ?_) (fun sp hsp => ?_) (fun _ _ => ?_) rfl hb ?_⟩
  · rw [hres, List.append_nil, e1]
    exact trodAll_mk1 (shut_bool Tryz.underlying4 true)
  · rw [List.append_nil, e2]
    exact below_trodAll Tryz.laidOut hb sp hread hA hlt (fun x hx => hsp x (by simpa using hx))
  · rw [hvars, List.append_nil, e3]; rfl
  · exact ok_one hres rfl (okWide_bool_mk Tryz.underlying4 true)
end Go.Proofs.YtooonjcpdbbniaaGreatDoor
