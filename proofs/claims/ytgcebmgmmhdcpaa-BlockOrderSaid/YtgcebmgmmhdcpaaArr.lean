/- A row of limbs that the call itself made and writes into. -/
import Derived.Test.YtgcebmgmmhdcpaaApp
import Derived.Test.YtgcebmgmmhdcpaaMath
import Derived.Laws.MakeOwn
import Derived.Laws.Rows
namespace Go.Proofs.Ytgcebmgmmhdcpaa
open Go.RowKit
def Arr (w : World) (g : Nat) (l : List Nat) : Prop := w.heap[g]? = some (.cells (us l).toArray 72 (0, 0))
section
variable {w w' : World} {g : Nat} {l : List Nat}
theorem Arr.lt (h : Arr w g l) : g < w.heap.size := (Array.getElem?_eq_some_iff.1 h).1
theorem Arr.cell (h : Arr w g l) {i : Nat} (hi : i < l.length) : w.cell? ⟨g, i, none⟩ = some (.int .u64 (lat l i : Nat)) := by
  rw [World.cell?]; simp [show w.heap[g]? = _ from h, us, lat, hi]
theorem Arr.frozen (h : Arr w g l) (i : Nat) : w.frozen? ⟨g, i, none⟩ = false := by simp [World.frozen?, show w.heap[g]? = _ from h]
theorem Arr.set (h : Arr w g l) (i x : Nat) : Arr (w.setCell ⟨g, i, none⟩ (.int .u64 (x : Int))) g (l.set i x) := by
  unfold Arr at h ⊢
  simp [World.setCell, Array.getElem?_modify, h, us]
theorem Arr.below {B : Nat} (h : Arr w g l) (hb : Below B w w') (hg : g < B) : Arr w' g l := (hb.block g hg).trans h
theorem Arr.alloc (h : Arr w g l) (o : Obj) : Arr (w.alloc o) g l := (Below.heap_alloc w o g h.lt).trans h
theorem Arr.drew (h : Arr w g l) : Arr w.drew g l := h
theorem Arr.drewN (h : Arr w g l) (n : Nat) : Arr (w.drewN n) g l := h
theorem Arr.new (w : World) (l : List Nat) : Arr (w.alloc (.cells (us l).toArray 72)) w.heap.size l := heap_alloc_new w _
theorem Arr.isL (h : Arr w g l) (hb : Bd l) (hl : l.length ≤ 9223372036854775807) : IsL w (.slice (some ⟨g, 0, none⟩) l.length l.length) l :=
  ⟨_, _, rfl, Nat.le_refl _, hl, hb, by rw [us_len]; omega, fun _ => ⟨_, rfl, h.lt, fun j u hu => by
    have e : Addr.add ⟨g, 0, none⟩ j = ⟨g, j, none⟩ := by unfold Addr.add; split <;> simp_all
    have hj : j < l.length := by
      rcases Nat.lt_or_ge j l.length with h' | h'
      · exact h'
      · rw [List.getElem?_eq_none (by rw [us_len]; exact h')] at hu; cases hu
    rw [e, h.cell hj]
    rw [us_at l j hj] at hu
    exact hu⟩⟩
end
theorem madeCells_us (n : Nat) : madeCells (Value.int .u64 0).cells n = (us (zeros n)).toArray := by
  have e : ∀ i : Nat, (Value.int .u64 0).cells[i % (Value.int .u64 0).cells.size]! = .int .u64 0 := fun i => by simp [Value.cells, Nat.mod_one]
  unfold madeCells
  rw [show (fun x => (Value.int .u64 0).cells[x % (Value.int .u64 0).cells.size]!) = fun _ => Value.int .u64 0 from funext e]
  apply Array.ext
  · simp [us, zeros]
  · intro i h1 h2; simp [us, zeros]
theorem run_make_u64 (t : TypeId) (ht : Try.prog.underlying t = some (.slice 72)) (n : Nat) (k : Int) (hk : k = n) (hn : n ≤ 10000000) (W : World) :
    (Instr.makeSlice t (.int .i64 k) (.int .i64 k)).run Try.prog W = .ok (.slice (some ⟨W.heap.size, 0, none⟩) n n) (W.alloc (.cells (us (zeros n)).toArray 72)) := by
  obtain ⟨i0, hi, hz0, hz1, hz2⟩ := info_parts info_u64
  subst hk
  rw [run_make W t 72 i0 (.int .u64 0) ht hi hz0 .i64 .i64 n n (by omega) (by omega) (by rw [hz2]; omega) (by omega)]
  simp only [Int.toNat_natCast, hz1, Nat.mul_one, madeCells_us]
end Go.Proofs.Ytgcebmgmmhdcpaa
