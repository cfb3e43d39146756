/- Boxes of arguments and of results: blocks that are known whole, beside numbers that lie elsewhere. -/
import Derived.Test.YtgcebmgmmhdcpaaZedW
namespace Go.Proofs.Ytgcebmgmmhdcpaa
open Go.RowKit

def noU : Value → Bool
  | .int .u64 _ => false
  | _ => true
section
variable {w w' : World} {v : Value} {n R : Nat} {l : List Nat} {t t' : TypeId} {cs cs' : Array Value}
theorem IsL.keepBlk (h : IsL w v l) (hR : Blk w R t cs) (hcs : cs.all noU = true) (hw : ∀ k, k ≠ R → w'.heap[k]? = w.heap[k]?) (hsz : w.heap.size ≤ w'.heap.size) : IsL w' v l := by
  obtain ⟨A, c, rfl, h1, h2, h3, h4⟩ := h
  refine ⟨A, c, rfl, h1, h2, h3, h4.1, fun hn => ?_⟩
  obtain ⟨ad, rfl, hb, hc⟩ := h4.2 hn
  refine ⟨ad, rfl, by omega, fun j y hj => ?_⟩
  have hne : ad.block ≠ R := by
    intro e
    have hl := h4.1
    have h0 := hc 0 _ (us_at l 0 (by rw [us_len] at hl; omega))
    obtain ⟨b, off, sp⟩ := ad
    dsimp only at e; subst e
    rw [Addr.add, if_pos rfl] at h0
    have hsp : sp = none := World.cell?_spot h0
    subst hsp
    rw [hR.cell] at h0
    have := Array.all_eq_true_iff_forall_mem.1 hcs _ (Array.mem_of_getElem? h0)
    simp [noU] at this
  rw [← hc j y hj]
  exact World.cell?_of_block (by rw [block_of_add]; exact hw _ hne)
theorem IsN.keepBlk (h : IsN w v n) (hR : Blk w R t cs) (hcs : cs.all noU = true) (hw : ∀ k, k ≠ R → w'.heap[k]? = w.heap[k]?) (hsz : w.heap.size ≤ w'.heap.size) : IsN w' v n := IsL.keepBlk h hR hcs hw hsz
/-- a draw of an order changes nothing that is looked at -/
theorem undrew {B : Nat} {a x : World} (h : Below B a.drew x) : Below B a x := ⟨h.os, h.tape, h.output, h.size, h.block⟩
theorem balloc {a y : World} (h : Below a.heap.size a y) (o : Obj) : Below a.heap.size a (y.alloc o) := h.alloc h.size o
theorem bstep {a y z : World} (h : Below a.heap.size a y) (b : Below y.heap.size y z) : Below a.heap.size a z := h.trans (b.mono h.size)
theorem bdrew (a : World) : Below a.heap.size a a.drew := (Below.refl _ _).drew
theorem bset {B : Nat} {a y : World} (h : Below B a y) {X i : Nat} (hX : B ≤ X) (u : Value) : Below B a (y.setCell ⟨X, i, none⟩ u) := h.setCell (p := ⟨X, i, none⟩) hX u
/-- two boxes, one behind the other -/
def Two (w : World) (g : Nat) (t : TypeId) (cs : Array Value) (t' : TypeId) (cs' : Array Value) : Prop := Blk w g t cs ∧ Blk w (g + 1) t' cs'
theorem Two.below {g B : Nat} (h : Two w g t cs t' cs') (hb : Below B w w') (hB : g + 1 < B) : Two w' g t cs t' cs' := ⟨h.1.below hb (by omega), h.2.below hb hB⟩
theorem Two.lt {g : Nat} (h : Two w g t cs t' cs') : g + 1 < w.heap.size := h.2.lt
theorem Two.cells22 {g : Nat} {a b c d : Value} (h : Two w g t #[a, b] t' #[c, d]) : w.cell? ⟨g, 0, none⟩ = some a ∧ w.cell? ⟨g, 1, none⟩ = some b ∧ w.cell? ⟨g + 1, 0, none⟩ = some c ∧ w.cell? ⟨g + 1, 1, none⟩ = some d :=
  ⟨h.1.cell 0, h.1.cell 1, h.2.cell 0, h.2.cell 1⟩
theorem Two.cells33 {g : Nat} {a b c d e f : Value} (h : Two w g t #[a, b, c] t' #[d, e, f]) : w.cell? ⟨g, 0, none⟩ = some a ∧ w.cell? ⟨g, 1, none⟩ = some b ∧ w.cell? ⟨g, 2, none⟩ = some c ∧ w.cell? ⟨g + 1, 0, none⟩ = some d ∧ w.cell? ⟨g + 1, 1, none⟩ = some e ∧ w.cell? ⟨g + 1, 2, none⟩ = some f :=
  ⟨h.1.cell 0, h.1.cell 1, h.1.cell 2, h.2.cell 0, h.2.cell 1, h.2.cell 2⟩
theorem Blk.cells2 {g : Nat} {a b : Value} (h : Blk w g t #[a, b]) : w.cell? ⟨g, 0, none⟩ = some a ∧ w.cell? ⟨g, 1, none⟩ = some b := ⟨h.cell 0, h.cell 1⟩
theorem Blk.cells3 {g : Nat} {a b c : Value} (h : Blk w g t #[a, b, c]) : w.cell? ⟨g, 0, none⟩ = some a ∧ w.cell? ⟨g, 1, none⟩ = some b ∧ w.cell? ⟨g, 2, none⟩ = some c := ⟨h.cell 0, h.cell 1, h.cell 2⟩
theorem Blk.far1 {g : Nat} (h : Blk w g t cs) {i : Nat} (hR : g < R) (x : Value) : Blk (w.setCell ⟨R, i, none⟩ x) g t cs := h.far (p := ⟨R, i, none⟩) (show g ≠ R by omega) x
theorem Two.far2 {g : Nat} (h : Two w g t cs t' cs') (x y : Value) : Two ((w.setCell ⟨g + 1 + 1, 0, none⟩ x).setCell ⟨g + 1 + 1, 1, none⟩ y) g t cs t' cs' :=
  ⟨(h.1.far1 (by omega) x).far1 (by omega) y, (h.2.far1 (by omega) x).far1 (by omega) y⟩
theorem Two.far3 {g : Nat} (h : Two w g t cs t' cs') (x y z : Value) : Two (((w.setCell ⟨g + 1 + 1, 0, none⟩ x).setCell ⟨g + 1 + 1, 1, none⟩ y).setCell ⟨g + 1 + 1, 2, none⟩ z) g t cs t' cs' :=
  ⟨((h.1.far1 (by omega) x).far1 (by omega) y).far1 (by omega) z, ((h.2.far1 (by omega) x).far1 (by omega) y).far1 (by omega) z⟩
theorem Blk.far2 {g : Nat} (h : Blk w g t cs) (x y : Value) : Blk ((w.setCell ⟨g + 1, 0, none⟩ x).setCell ⟨g + 1, 1, none⟩ y) g t cs := (h.far1 (by omega) x).far1 (by omega) y
theorem Blk.far3 {g : Nat} (h : Blk w g t cs) (x y z : Value) : Blk (((w.setCell ⟨g + 1, 0, none⟩ x).setCell ⟨g + 1, 1, none⟩ y).setCell ⟨g + 1, 2, none⟩ z) g t cs := ((h.far1 (by omega) x).far1 (by omega) y).far1 (by omega) z
theorem Blk.farX {X : Nat} (h : Blk w R t cs) (hX : R ≠ X) (x y z : Value) : Blk (((w.setCell ⟨X, 0, none⟩ x).setCell ⟨X, 1, none⟩ y).setCell ⟨X, 2, none⟩ z) R t cs := ((h.far (p := ⟨X, 0, none⟩) hX x).far (p := ⟨X, 1, none⟩) hX y).far (p := ⟨X, 2, none⟩) hX z
theorem IsN.frm (h : IsN w v n) : ∃ A m c, v = .slice A m c := by obtain ⟨A, c, e, _⟩ := h; exact ⟨A, _, c, e⟩
/-- two boxes of arguments and a box for the result, as they are made -/
theorem box3 (w : World) (t1 t2 t3 : TypeId) (c1 c2 c3 : Array Value) : ∃ W, W = ((w.alloc (.cells c1 t1)).alloc (.cells c2 t2)).alloc (.cells c3 t3) ∧ Two W w.heap.size t1 c1 t2 c2 ∧ Blk W (w.heap.size + 1 + 1) t3 c3 ∧ Below w.heap.size w W := by
  refine ⟨_, rfl, ⟨((Blk.new w t1 c1).alloc _).alloc _, ?_⟩, ?_, (((Below.refl _ w).alloc (Nat.le_refl _) _).alloc (by simp) _).alloc (by simp; omega) _⟩
  · have := Blk.new (w.alloc (.cells c1 t1)) t2 c2
    rw [World.size_alloc] at this; exact this.alloc _
  · have := Blk.new ((w.alloc (.cells c1 t1)).alloc (.cells c2 t2)) t3 c3
    rw [World.size_alloc, World.size_alloc] at this; exact this
theorem box2 (w : World) (t1 t2 : TypeId) (c1 c2 : Array Value) : ∃ W, W = (w.alloc (.cells c1 t1)).alloc (.cells c2 t2) ∧ Two W w.heap.size t1 c1 t2 c2 ∧ Below w.heap.size w W := by
  refine ⟨_, rfl, ⟨(Blk.new w t1 c1).alloc _, ?_⟩, ((Below.refl _ w).alloc (Nat.le_refl _) _).alloc (by simp) _⟩
  have := Blk.new (w.alloc (.cells c1 t1)) t2 c2
  rw [World.size_alloc] at this; exact this
theorem box1 (w : World) (t1 : TypeId) (c1 : Array Value) : ∃ W, W = w.alloc (.cells c1 t1) ∧ Blk W w.heap.size t1 c1 ∧ Below w.heap.size w W :=
  ⟨_, rfl, Blk.new w t1 c1, (Below.refl _ w).alloc (Nat.le_refl _) _⟩
/-- a box of the function's own, that is made somewhere ahead of a call -/
theorem newX {y z : World} (b : Below (y.alloc (.cells cs t)).heap.size (y.alloc (.cells cs t)) z) (a : World) (h : Below a.heap.size a y) : Blk z y.heap.size t cs ∧ a.heap.size ≤ y.heap.size :=
  ⟨(Blk.new y t cs).below b (by simp), h.size⟩
/-- what is stored into a box of two cells, of three -/
theorem put2 {a b : Value} (hR : Blk w R t #[a, b]) (x y : Value) (hcs : (#[a, b] : Array Value).all noU = true) {B : Nat} {w0 : World} (hB : Below B w0 w) (hBR : B ≤ R) :
    Blk ((w.setCell ⟨R, 0, none⟩ x).setCell ⟨R, 1, none⟩ y) R t #[x, y] ∧ (∀ v n, IsN w v n → IsN ((w.setCell ⟨R, 0, none⟩ x).setCell ⟨R, 1, none⟩ y) v n) ∧ Below B w0 ((w.setCell ⟨R, 0, none⟩ x).setCell ⟨R, 1, none⟩ y) := by
  refine ⟨?_, fun v n h => h.keepBlk hR hcs (fun k hk => (Below.heap_setCell _ ⟨R, 1, none⟩ y k hk).trans (Below.heap_setCell w ⟨R, 0, none⟩ x k hk)) (by simp [World.setCell]), (hB.setCell (p := ⟨R, 0, none⟩) hBR x).setCell (p := ⟨R, 1, none⟩) hBR y⟩
  have := (hR.set_ 0 x).set_ 1 y
  simpa using this
theorem put3 {a b c : Value} (hR : Blk w R t #[a, b, c]) (x y z : Value) (hcs : (#[a, b, c] : Array Value).all noU = true) {B : Nat} {w0 : World} (hB : Below B w0 w) (hBR : B ≤ R) :
    Blk (((w.setCell ⟨R, 0, none⟩ x).setCell ⟨R, 1, none⟩ y).setCell ⟨R, 2, none⟩ z) R t #[x, y, z] ∧ (∀ v n, IsN w v n → IsN (((w.setCell ⟨R, 0, none⟩ x).setCell ⟨R, 1, none⟩ y).setCell ⟨R, 2, none⟩ z) v n) ∧ Below B w0 (((w.setCell ⟨R, 0, none⟩ x).setCell ⟨R, 1, none⟩ y).setCell ⟨R, 2, none⟩ z) := by
  refine ⟨?_, fun v n h => h.keepBlk hR hcs (fun k hk => (Below.heap_setCell _ ⟨R, 2, none⟩ z k hk).trans ((Below.heap_setCell _ ⟨R, 1, none⟩ y k hk).trans (Below.heap_setCell w ⟨R, 0, none⟩ x k hk))) (by simp [World.setCell]), ((hB.setCell (p := ⟨R, 0, none⟩) hBR x).setCell (p := ⟨R, 1, none⟩) hBR y).setCell (p := ⟨R, 2, none⟩) hBR z⟩
  have := ((hR.set_ 0 x).set_ 1 y).set_ 2 z
  simpa using this
end
end Go.Proofs.Ytgcebmgmmhdcpaa
