/- A drawn region inside a round of an iterator, by the laws of a region outside: as long as it defers nothing. -/
import Derived.Test.YtooonjcpdbbniaaGreatDoorStillR
import Derived.Deep.RegionHeld
namespace Go.Proofs.YtooonjcpdbbniaaGreatDoor
section
variable {P : Program} {ops : Array Oper} {md : Region.Mode} {n lr : Nat} {Q : Exit → Act → World → Prop}
theorem rowsInR {row : String} {args : Array Value} {w : World} {R : Value → World → Prop} (h : Rows P row args w R) : RowsIn (Fence.wide.inRound lr) n P row args w R :=
  fun c cs _ => let ⟨v, w', r, s⟩ := h c cs; ⟨v, w', r, stepsIn_wide.2 s⟩
theorem wpInR_of_wp {o : Oper} {a : Act} {w : World} {K : Act → World → Prop} (hno : ∀ c, o.op ≠ .defer c) (hh : o.wp P a w K Q) : o.wpIn (Fence.wide.inRound lr) n P a w K Q := by
  unfold Oper.wp at hh
  unfold Oper.wpIn
  refine ⟨fun _ _ => trivial, ?_⟩
  rw [Fence.inRound_round, Oper.semAt_eq _ _ _ hno]
  generalize (execOp a.eval o).run P w = r at *
  cases r with
  | ok x w' =>
    cases x <;> simp only [Oper.upon] at hh <;> simp only [Oper.uponIn]
    case enter f args => exact ⟨fun hd => by simp [Fence.wide] at hd, CallsIn.inRound lr (callsIn_wide.2 hh)⟩
    case row => exact ⟨fun hd => by simp [Fence.wide] at hd, rowsInR hh⟩
    all_goals exact hh
  | halt x w' => cases x <;> simp only [Oper.upon] at hh <;> simp only [Oper.uponIn] <;> exact hh
theorem wpOpInR_of_wpOp {i : Nat} {a : Act} {w : World} {K K' : Act → World → Prop} (hq : ¬ LetsOut Q) (h : ∀ a w, K a w → K' a w) (hnd : ∀ (i : Nat) (o : Oper), ops[i]? = some o → ∀ c, o.op ≠ .defer c) (hh : wpOp P ops Q i K a w) : wpOpIn (Fence.wide.inRound lr) n P ops Q i K' a w := by
  unfold wpOp at hh
  unfold wpOpIn
  split
  · rename_i ho; simp only [ho] at hh; exact h _ _ hh
  · rename_i o ho
    simp only [ho] at hh
    split
    · rename_i hw; simp only [hw, if_true] at hh
      rcases hh with hh | hh
      · exact wpInR_of_wp (hnd _ _ ho) (Oper.wp_mono h hh)
      · exact absurd hh.2 hq
    · rename_i hw; simp only [hw] at hh; exact ⟨fun _ _ => trivial, h _ _ hh⟩
theorem wpAnyInR_of_wpAny (hq : ¬ LetsOut Q) (hnd : ∀ (i : Nat) (o : Oper), ops[i]? = some o → ∀ c, o.op ≠ .defer c) : ∀ (f : Nat) (listed : Array Bool) (a : Act) (w : World), wpAny P md ops Q f listed a w → wpAnyIn (Fence.wide.inRound lr) n P md ops Q f listed a w
  | 0, _, _, _, h => h
  | f + 1, listed, a, w, h => ⟨h.1, fun i hi => wpOpInR_of_wpOp hq (fun a' w' h' => wpAnyInR_of_wpAny hq hnd f _ a' w' h') hnd (h.2 i hi)⟩
/-- it ends as it should, and nowhere else -/
def OnlyN (K : Act → World → Prop) : Exit → Act → World → Prop
  | .normal, a, w => K a w
  | _, _, _ => False
/-- the region, inside a round -/
theorem wpInR_region_held {id : Nat} {a : Act} {w : World} {S : World → Prop} (hm : P.follows .mixedOrders = true) (hnd : ops.toList.all noDefer = true) (hS : S w.drew)
    (h : S w.drew → wpAnyH P .any ops (OnlyN (Q .normal)) S ops.size (Array.replicate ops.size false) a w.drew) : (Code.region id ops true).wpIn (Fence.wide.inRound lr) n P Q a w := by
  refine wpIn_mono (wpIn_region_any hm (wpAnyInR_of_wpAny (Q := OnlyN (Q .normal)) (fun ⟨_, _, h1⟩ => h1) (fun i o ho c e => ?_) _ _ _ _ (wpAny_of_held _ _ _ _ (h hS)))) (fun e a w h => ?_)
  · have := List.all_eq_true.1 hnd o (List.mem_of_getElem? (by simpa using ho))
    unfold noDefer at this; rw [e] at this; cases this
  · cases e <;> first | exact h | exact (h : False).elim
end
end Go.Proofs.YtooonjcpdbbniaaGreatDoor
