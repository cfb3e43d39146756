/- Rows of the call's own that lie in one box: what an append to one of them leaves of the others. -/
import Derived.Test.YtbnnonmkkkhepaaZedW
import Derived.Test.YtbnnonmkkkhepaaApp
import Derived.Deep.RegionLaw
namespace Go.Proofs.Ytbnnonmkkkhepaa
open Go.RowKit
def upd {α : Type} (f : Nat → α) (i : Nat) (x : α) : Nat → α := fun j => if j = i then x else f j
def rows4f {α : Type} (a b c d : α) : Nat → α
  | 0 => a
  | 1 => b
  | 2 => c
  | _ => d
/-- a box of four rows, each one the call's own -/
structure Out (w : World) (X B : Nat) (v : Nat → Value) (l : Nat → List Int) : Prop where
  box : Blk w X 26 #[v 0, v 1, v 2, v 3]
  own : ∀ i, i < 4 → w.ownsRow B 2 1 (v i) (l i).length (is (l i))
  far : ∀ i j, i < 4 → j < 4 → i ≠ j → (v i).ownBlock = none ∨ (v i).ownBlock ≠ (v j).ownBlock
section
variable {w w' : World} {X B : Nat} {v : Nat → Value} {l : Nat → List Int}
theorem own_type {e : TypeId} {n : Nat} {u : Value} {xs : List Value} {t : TypeId} {cs : Array Value} (h : w.ownsRow B e 1 u n xs) (hb : Blk w X t cs) (hne : t ≠ e) : u.ownBlock ≠ some X := by
  rcases h.2 with ⟨rfl, _⟩ | ⟨g, cap, cur, rfl, hg, hh, _⟩
  · simp [Value.ownBlock]
  · intro e2
    have : g = X := by simpa [Value.ownBlock] using e2
    subst this
    unfold Blk at hb
    rw [hh] at hb
    injection hb with hb
    injection hb with h1 h2 h3
    exact hne h2.symm
theorem Out.below (h : Out w X B v l) (hb : Below w.heap.size w w') : Out w' X B v l :=
  ⟨h.box.below hb h.box.lt, fun i hi => (h.own i hi).kept (row := none) ⟨hb.os, hb.tape, hb.output, hb.size, fun k hk _ => hb.block k hk⟩ (by cases (v i).ownBlock <;> simp), h.far⟩
theorem Out.alloc (h : Out w X B v l) (o : Obj) : Out (w.alloc o) X B v l := h.below ((Below.refl _ w).alloc (Nat.le_refl _) o)
theorem Out.drew (h : Out w X B v l) : Out w.drew X B v l := h.below (bdrew w)
theorem own_setCell {e : TypeId} {n : Nat} {u : Value} {xs : List Value} (h : w.ownsRow B e 1 u n xs) {p : Addr} (hp : u.ownBlock ≠ some p.block) (y : Value) : (w.setCell p y).ownsRow B e 1 u n xs := by
  refine h.kept (row := some p.block) ⟨rfl, rfl, rfl, by simp [World.setCell], fun k _ hne => Below.heap_setCell w p y k (fun e => hne (by rw [e]))⟩ (.inr hp)
theorem own_put4 {e : TypeId} {n R : Nat} {u : Value} {xs : List Value} {t : TypeId} {cs : Array Value} (h : w.ownsRow B e 1 u n xs) (hb : Blk w R t cs) (hne : t ≠ e) (x0 x1 x2 x3 : Value) :
    ((((w.setCell ⟨R, 0, none⟩ x0).setCell ⟨R, 1, none⟩ x1).setCell ⟨R, 2, none⟩ x2).setCell ⟨R, 3, none⟩ x3).ownsRow B e 1 u n xs := by
  have hX := own_type h hb hne
  exact own_setCell (own_setCell (own_setCell (own_setCell h (p := ⟨R, 0, none⟩) hX x0) (p := ⟨R, 1, none⟩) hX x1) (p := ⟨R, 2, none⟩) hX x2) (p := ⟨R, 3, none⟩) hX x3
def noI : Value → Bool
  | .int .i64 _ => false
  | _ => true
theorem IsI.keepBlk {R : Nat} {u : Value} {xs : List Int} {t : TypeId} {cs : Array Value} (h : IsI w u xs) (hR : Blk w R t cs) (hcs : cs.all noI = true) (hw : ∀ k, k ≠ R → w'.heap[k]? = w.heap[k]?) (hsz : w.heap.size ≤ w'.heap.size) : IsI w' u xs := by
  obtain ⟨A, c, rfl, h1, h2, h4⟩ := h
  refine ⟨A, c, rfl, h1, h2, h4.1, fun hn => ?_⟩
  obtain ⟨ad, rfl, hb, hc⟩ := h4.2 hn
  refine ⟨ad, rfl, by omega, fun j y hj => ?_⟩
  have hne : ad.block ≠ R := by
    intro e
    have hl := h4.1
    have h0 := hc 0 _ (is_at xs 0 (by rw [is_len] at hl; omega))
    obtain ⟨b, off, sp⟩ := ad
    dsimp only at e; subst e
    rw [Addr.add, if_pos rfl] at h0
    have hsp : sp = none := World.cell?_spot h0
    subst hsp
    rw [hR.cell] at h0
    have := Array.all_eq_true_iff_forall_mem.1 hcs _ (Array.mem_of_getElem? h0)
    simp [noI] at this
  rw [← hc j y hj]
  exact World.cell?_of_block (by rw [block_of_add]; exact hw _ hne)
theorem put4 {R : Nat} {t : TypeId} {a b c d : Value} (hR : Blk w R t #[a, b, c, d]) (x y z u : Value) (hcs : (#[a, b, c, d] : Array Value).all noI = true) {B0 : Nat} {w0 : World} (hB : Below B0 w0 w) (hBR : B0 ≤ R) :
    Blk ((((w.setCell ⟨R, 0, none⟩ x).setCell ⟨R, 1, none⟩ y).setCell ⟨R, 2, none⟩ z).setCell ⟨R, 3, none⟩ u) R t #[x, y, z, u] ∧ (∀ v l, IsI w v l → IsI ((((w.setCell ⟨R, 0, none⟩ x).setCell ⟨R, 1, none⟩ y).setCell ⟨R, 2, none⟩ z).setCell ⟨R, 3, none⟩ u) v l) ∧
    Below B0 w0 ((((w.setCell ⟨R, 0, none⟩ x).setCell ⟨R, 1, none⟩ y).setCell ⟨R, 2, none⟩ z).setCell ⟨R, 3, none⟩ u) := by
  refine ⟨?_, fun v l h => h.keepBlk hR hcs (fun k hk => (Below.heap_setCell _ ⟨R, 3, none⟩ u k hk).trans ((Below.heap_setCell _ ⟨R, 2, none⟩ z k hk).trans ((Below.heap_setCell _ ⟨R, 1, none⟩ y k hk).trans (Below.heap_setCell w ⟨R, 0, none⟩ x k hk)))) (by simp [World.setCell]), (((hB.setCell (p := ⟨R, 0, none⟩) hBR x).setCell (p := ⟨R, 1, none⟩) hBR y).setCell (p := ⟨R, 2, none⟩) hBR z).setCell (p := ⟨R, 3, none⟩) hBR u⟩
  have := (((hR.set_ 0 x).set_ 1 y).set_ 2 z).set_ 3 u
  simpa using this
theorem Two.cells44 {g : Nat} {t t' : TypeId} {a b c d a' b' c' d' : Value} (h : Two w g t #[a, b, c, d] t' #[a', b', c', d']) : w.cell? ⟨g, 0, none⟩ = some a ∧ w.cell? ⟨g, 1, none⟩ = some b ∧ w.cell? ⟨g, 2, none⟩ = some c ∧ w.cell? ⟨g, 3, none⟩ = some d ∧ w.cell? ⟨g + 1, 0, none⟩ = some a' ∧ w.cell? ⟨g + 1, 1, none⟩ = some b' ∧ w.cell? ⟨g + 1, 2, none⟩ = some c' ∧ w.cell? ⟨g + 1, 3, none⟩ = some d' :=
  ⟨h.1.cell 0, h.1.cell 1, h.1.cell 2, h.1.cell 3, h.2.cell 0, h.2.cell 1, h.2.cell 2, h.2.cell 3⟩
/-- one more at the end of row c, and the row put back into its box -/
theorem Out.push (h : Out w X B v l) (hX : 26 ≠ 2) {c : Nat} (hc : c < 4) {v' : Value} {x : Int} (hown : w'.ownsRow B 2 1 v' ((l c).length + 1) (is (l c) ++ [.int .i64 x]))
    (hg : w.grownBy w' (v c).ownBlock) (hat : (v c).ownBlock = v'.ownBlock ∨ v'.ownBlock = some w.heap.size) :
    Out (w'.setCell ⟨X, c, none⟩ v') X B (upd v c v') (upd l c (l c ++ [x])) := by
  have hXc : (v c).ownBlock ≠ some X := own_type (h.own c hc) h.box hX
  have hbox' : Blk w' X 26 #[v 0, v 1, v 2, v 3] := h.box.grown hg (fun e => hXc e.symm)
  have hX' : v'.ownBlock ≠ some X := own_type hown hbox' hX
  have hlt := h.box.lt
  have hkeep : ∀ i, i < 4 → i ≠ c → w'.ownsRow B 2 1 (v i) (l i).length (is (l i)) := fun i hi hne => (h.own i hi).kept hg (h.far i c hi hc hne)
  refine ⟨?_, ?_, ?_⟩
  · have := hbox'.set_ c v'
    obtain rfl | rfl | rfl | rfl : c = 0 ∨ c = 1 ∨ c = 2 ∨ c = 3 := by omega
    all_goals simpa [upd] using this
  · intro i hi
    by_cases he : i = c
    · subst he
      simp only [upd, if_true, List.length_append, List.length_singleton]
      rw [is_snoc]
      exact own_setCell hown (p := ⟨X, i, none⟩) hX' v'
    · simp only [upd, if_neg he]
      exact own_setCell (hkeep i hi he) (p := ⟨X, c, none⟩) (own_type (h.own i hi) h.box hX) v'
  · intro i j hi hj hne
    by_cases he : i = c
    · subst he
      simp only [upd, if_true, if_neg (Ne.symm hne)]
      rcases hat with hat | hat
      · rw [← hat]; exact h.far i j hi hj hne
      · right; rw [hat]; intro e
        have := ((h.own j hj).lt _ e.symm).2; omega
    · by_cases hj2 : j = c
      · subst hj2
        simp only [upd, if_true, if_neg he]
        rcases hat with hat | hat
        · rw [← hat]; exact h.far i j hi hj hne
        · right; rw [hat]; intro e
          have := ((h.own i hi).lt _ e).2; omega
      · simp only [upd, if_neg he, if_neg hj2]; exact h.far i j hi hj hne
theorem Out.start (w : World) (t : TypeId) (ht : t = 26) (hB : B ≤ w.heap.size) : Out (w.alloc (.cells #[.slice none 0 0, .slice none 0 0, .slice none 0 0, .slice none 0 0] t)) w.heap.size B (fun _ => .slice none 0 0) (fun _ => []) := by
  subst ht
  exact ⟨Blk.new _ _ _, fun i _ => ⟨by simp [is], .inl ⟨rfl, rfl⟩⟩, fun i j _ _ _ => .inl rfl⟩
theorem Out.congr {l' : Nat → List Int} (h : Out w X B v l) (e : l 0 = l' 0 ∧ l 1 = l' 1 ∧ l 2 = l' 2 ∧ l 3 = l' 3) : Out w X B v l' := by
  refine ⟨h.box, fun i hi => ?_, h.far⟩
  have := h.own i hi
  obtain ⟨e0, e1, e2, e3⟩ := e
  obtain rfl | rfl | rfl | rfl : i = 0 ∨ i = 1 ∨ i = 2 ∨ i = 3 := by omega
  · rwa [← e0]
  · rwa [← e1]
  · rwa [← e2]
  · rwa [← e3]
theorem Out.rows (h : Out w X B v l) {i : Nat} (hi : i < 4) : IsI w (v i) (l i) := IsI.of_own (h.own i hi)
end
end Go.Proofs.Ytbnnonmkkkhepaa
