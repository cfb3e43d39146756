/- What a round of an iterator leaves as it lay. -/
import Derived.Test.YtooonjcpdbbniaaGreatDoorMul
import Derived.Below
import Derived.RangeFuncWrites
import Derived.RangeFuncBox
import Derived.RangeFuncFrom
namespace Go.Proofs.YtooonjcpdbbniaaGreatDoor
open Go.RowKit
/-- what lies below n₀ lies as it lay, and so do the blocks from lo on, below hi -/
structure KR (n₀ lo hi : Nat) (W W' : World) : Prop where
  low : Below n₀ W W'
  mid : ∀ i, lo ≤ i → i < hi → W'.heap[i]? = W.heap[i]?
theorem KR.refl (n₀ lo hi : Nat) (W : World) : KR n₀ lo hi W W := ⟨Below.refl _ _, fun _ _ _ => rfl⟩
theorem KR.trans {n₀ lo hi : Nat} {A B C : World} (h : KR n₀ lo hi A B) (k : KR n₀ lo hi B C) : KR n₀ lo hi A C := ⟨h.low.trans k.low, fun i h1 h2 => (k.mid i h1 h2).trans (h.mid i h1 h2)⟩
theorem KR.drew {n₀ lo hi : Nat} {A B : World} (h : KR n₀ lo hi A B) : KR n₀ lo hi A B.drew := ⟨h.low.drew, h.mid⟩
theorem KR.put {n₀ lo hi : Nat} {w : World} (hn : n₀ ≤ w.heap.size) (hh : hi ≤ w.heap.size) (W : World) (l : Nat) (o o' : Obj) (hl : w.heap.size ≤ l) (h : W.heap[l]? = some o) (h1 : o.isCells = false) (h2 : o.isWalk = false) : KR n₀ lo hi W (W.putObj l o') :=
  ⟨belowK_b hn W l o o' hl h h1 h2, fun i _ hi' => (grownBy_putObj' W l o').block i (by have := (Array.getElem?_eq_some_iff.1 h).1; omega) (fun e => by cases e; omega)⟩
theorem KR.cell {n₀ lo hi : Nat} {A B : World} (h : KR n₀ lo hi A B) {b o : Nat} (h1 : lo ≤ b) (h2 : b < hi) : B.cell? ⟨b, o, none⟩ = A.cell? ⟨b, o, none⟩ := World.cell?_of_block (h.mid b h1 h2)
theorem grownBy_drew (w : World) : w.grownBy w.drew none := ⟨rfl, rfl, rfl, Nat.le_refl _, fun _ _ _ => rfl⟩
theorem KR.of_below {n₀ lo hi b₁ : Nat} {A B : World} (h : Below b₁ A B) (h1 : n₀ ≤ b₁) (h2 : hi ≤ b₁) : KR n₀ lo hi A B := ⟨h.mono h1, fun i _ hi => h.block i (by omega)⟩
theorem KR.set {n₀ lo hi C : Nat} {A B : World} (h : KR n₀ lo hi A B) (h1 : n₀ ≤ C) (h2 : C < lo ∨ hi ≤ C) (x : Value) : KR n₀ lo hi A (B.setCell ⟨C, 0, none⟩ x) :=
  ⟨h.low.setCell (p := ⟨C, 0, none⟩) h1 x, fun i hl hh => (Below.heap_setCell B ⟨C, 0, none⟩ x i (by show i ≠ C; omega)).trans (h.mid i hl hh)⟩
theorem KR.setAt {n₀ lo hi C i : Nat} {A B : World} (h : KR n₀ lo hi A B) (h1 : n₀ ≤ C) (h2 : C < lo ∨ hi ≤ C) (x : Value) : KR n₀ lo hi A (B.setCell ⟨C, i, none⟩ x) :=
  ⟨h.low.setCell (p := ⟨C, i, none⟩) h1 x, fun k hl hh => (Below.heap_setCell B ⟨C, i, none⟩ x k (by show k ≠ C; omega)).trans (h.mid k hl hh)⟩
end Go.Proofs.YtooonjcpdbbniaaGreatDoor
