/- Rows of the call's own, that come up in any order: what a new literal, and an append to one of them, leave of the others. -/
import Derived.Test.YtbnnonmkkkhepaaZedW
import Derived.Test.YtbnnonmkkkhepaaApp
namespace Go.Proofs.Ytbnnonmkkkhepaa
open Go.RowKit
def updT {α : Type} (f : Nat → α) (i : Nat) (x : α) : Nat → α := fun j => if j = i then x else f j
structure Three (w : World) (B : Nat) (on : Nat → Bool) (v : Nat → Value) (l : Nat → List Int) : Prop where
  own : ∀ i, on i = true → w.ownsRow B 2 1 (v i) (l i).length (is (l i))
  far : ∀ i j, on i = true → on j = true → i ≠ j → (v i).ownBlock = none ∨ (v i).ownBlock ≠ (v j).ownBlock
section
variable {w w' : World} {B : Nat} {on : Nat → Bool} {v : Nat → Value} {l : Nat → List Int}
theorem Three.begin_ : Three w B (fun _ => false) v l := ⟨fun _ h => (nomatch h), fun _ _ h => (nomatch h)⟩
theorem Three.below (h : Three w B on v l) (hb : Below w.heap.size w w') : Three w' B on v l :=
  ⟨fun i hi => (h.own i hi).kept (row := Option.none) ⟨hb.os, hb.tape, hb.output, hb.size, fun k hk _ => hb.block k hk⟩ (by cases (v i).ownBlock <;> simp), h.far⟩
theorem Three.alloc (h : Three w B on v l) (o : Obj) : Three (w.alloc o) B on v l := h.below ((Below.refl _ w).alloc (Nat.le_refl _) o)
theorem Three.rows (h : Three w B on v l) {i : Nat} (hi : on i = true) : IsI w (v i) (l i) := IsI.of_own (h.own i hi)
/-- an empty literal -/
theorem Three.lit (h : Three w B on v l) (hB : B ≤ w.heap.size) (i : Nat) : Three (w.alloc (.cells #[] 2)) B (updT on i true) (updT v i (.slice (some ⟨w.heap.size, 0, none⟩) 0 0)) (updT l i []) := by
  have h0 := World.ownsRow_lit w #[] 0 (base := B) (e := 2) (size := 1) hB (by unfold maxLen; omega) rfl
  refine ⟨fun j hj => ?_, fun j k hj hk hne => ?_⟩
  · by_cases e : j = i
    · subst e; simp only [updT, if_true]; exact h0
    · simp only [updT, if_neg e] at hj ⊢; exact (h.alloc _).own j hj
  · by_cases e : j = i
    · subst e
      simp only [updT, if_true, if_neg (Ne.symm hne)] at hk ⊢
      right; intro e2
      exact absurd ((h.own k hk).lt _ e2.symm).2 (Nat.lt_irrefl _)
    · by_cases e' : k = i
      · subst e'
        simp only [updT, if_true, if_neg e] at hj ⊢
        right; intro e2
        exact absurd ((h.own j hj).lt _ e2).2 (Nat.lt_irrefl _)
      · simp only [updT, if_neg e, if_neg e'] at hj hk ⊢
        exact h.far j k hj hk hne
/-- an append to one of them -/
theorem Three.push (h : Three w B on v l) {c : Nat} (hc : on c = true) {v' : Value} {m : List Int} (hown : w'.ownsRow B 2 1 v' ((l c).length + m.length) (is (l c) ++ is m))
    (hg : w.grownBy w' (v c).ownBlock) (hat : (v c).ownBlock = v'.ownBlock ∨ v'.ownBlock = some w.heap.size) : Three w' B on (updT v c v') (updT l c (l c ++ m)) := by
  have hkeep : ∀ i, on i = true → i ≠ c → w'.ownsRow B 2 1 (v i) (l i).length (is (l i)) := fun i hi hne => (h.own i hi).kept hg (h.far i c hi hc hne)
  refine ⟨fun i hi => ?_, fun i j hi hj hne => ?_⟩
  · by_cases e : i = c
    · subst e; simp only [updT, if_true, List.length_append]; rw [is_append]; exact hown
    · simp only [updT, if_neg e]; exact hkeep i hi e
  · by_cases e : i = c
    · subst e
      simp only [updT, if_true, if_neg (Ne.symm hne)]
      rcases hat with hat | hat
      · rw [← hat]; exact h.far i j hi hj hne
      · right; rw [hat]; intro e2
        have := ((h.own j hj).lt _ e2.symm).2; omega
    · by_cases e' : j = c
      · subst e'
        simp only [updT, if_true, if_neg e]
        rcases hat with hat | hat
        · rw [← hat]; exact h.far i j hi hj hne
        · right; rw [hat]; intro e2
          have := ((h.own i hi).lt _ e2).2; omega
      · simp only [updT, if_neg e, if_neg e']; exact h.far i j hi hj hne
theorem Three.congr {on' : Nat → Bool} {v' : Nat → Value} {l' : Nat → List Int} (h : Three w B on v l) (e : ∀ i, on' i = true → on i = true ∧ v i = v' i ∧ l i = l' i) : Three w B on' v' l' := by
  refine ⟨fun i hi => ?_, fun i j hi hj hne => ?_⟩
  · obtain ⟨h1, h2, h3⟩ := e i hi
    rw [← h2, ← h3]; exact h.own i h1
  · obtain ⟨h1, h2, _⟩ := e i hi
    obtain ⟨k1, k2, _⟩ := e j hj
    rw [← h2, ← k2]; exact h.far i j h1 k1 hne
end
def fn3 {α : Type} (a b c : α) : Nat → α
  | 0 => a
  | 1 => b
  | _ => c
def on3 (a b c : Bool) : Nat → Bool
  | 0 => a
  | 1 => b
  | 2 => c
  | _ => false
def cur {α : Type} (bF bS : Bool) (x y z : α) : α := bif bS then z else bif bF then y else x
theorem off_ {p q : Bool} (h : p = true → q = true) (hq : q = false) : p = false := by
  cases p
  · rfl
  · rw [h rfl] at hq; cases hq
theorem on3_cases {a b c : Bool} {i : Nat} {P : Nat → Prop} (h : on3 a b c i = true) (h0 : a = true → P 0) (h1 : b = true → P 1) (h2 : c = true → P 2) : P i := by
  match i, h with
  | 0, h => exact h0 h
  | 1, h => exact h1 h
  | 2, h => exact h2 h
  | n + 3, h => exact nomatch (show false = true from h)
theorem on3_no {i : Nat} (h : on3 false false false i = true) : False := by
  match i, h with
  | 0, h => exact nomatch (show false = true from h)
  | 1, h => exact nomatch (show false = true from h)
  | 2, h => exact nomatch (show false = true from h)
  | n + 3, h => exact nomatch (show false = true from h)
theorem Three.start {w : World} {B : Nat} {v : Nat → Value} {l : Nat → List Int} : Three w B (on3 false false false) v l := ⟨fun _ h => (on3_no h).elim, fun _ _ h => (on3_no h).elim⟩
end Go.Proofs.Ytbnnonmkkkhepaa
