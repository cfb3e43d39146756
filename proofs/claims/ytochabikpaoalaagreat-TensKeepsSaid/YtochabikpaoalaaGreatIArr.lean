/- A row of integers that the call itself made and writes into. -/
import Derived.Test.YtochabikpaoalaaGreatApp
import Derived.Laws.MakeOwn
import Derived.Laws.Rows
namespace Go.Proofs.YtochabikpaoalaaGreat
open Go.RowKit
def IArr (w : World) (g : Nat) (l : List Int) : Prop := w.heap[g]? = some (.cells (is l).toArray 2 (0, 0))
section
variable {w w' : World} {g : Nat} {l : List Int}
theorem IArr.lt (h : IArr w g l) : g < w.heap.size := (Array.getElem?_eq_some_iff.1 h).1
theorem IArr.cell (h : IArr w g l) {i : Nat} (hi : i < l.length) : w.cell? ⟨g, i, none⟩ = some (.int .i64 (iat l i)) := by
  rw [World.cell?]; simp [show w.heap[g]? = _ from h, is, iat, hi]
theorem IArr.frozen (h : IArr w g l) (i : Nat) : w.frozen? ⟨g, i, none⟩ = false := by simp [World.frozen?, show w.heap[g]? = _ from h]
theorem IArr.set (h : IArr w g l) (i : Nat) (x : Int) : IArr (w.setCell ⟨g, i, none⟩ (.int .i64 x)) g (l.set i x) := by
  unfold IArr at h ⊢
  simp [World.setCell, Array.getElem?_modify, h, is, List.map_set]
theorem IArr.below {B : Nat} (h : IArr w g l) (hb : Below B w w') (hg : g < B) : IArr w' g l := (hb.block g hg).trans h
theorem IArr.far (h : IArr w g l) {p : Addr} (hp : g ≠ p.block) (u : Value) : IArr (w.setCell p u) g l := (Below.heap_setCell w p u g hp).trans h
theorem IArr.alloc (h : IArr w g l) (o : Obj) : IArr (w.alloc o) g l := (Below.heap_alloc w o g h.lt).trans h
theorem IArr.drew (h : IArr w g l) : IArr w.drew g l := h
theorem IArr.drewN (h : IArr w g l) (n : Nat) : IArr (w.drewN n) g l := h
theorem IArr.new (w : World) (l : List Int) : IArr (w.alloc (.cells (is l).toArray 2)) w.heap.size l := heap_alloc_new w _
theorem IArr.isI (h : IArr w g l) (hl : l.length ≤ 9223372036854775807) : IsI w (.slice (some ⟨g, 0, none⟩) l.length l.length) l :=
  ⟨_, _, rfl, Nat.le_refl _, hl, by rw [is_len]; omega, fun _ => ⟨_, rfl, h.lt, fun j u hu => by
    have e : Addr.add ⟨g, 0, none⟩ j = ⟨g, j, none⟩ := by unfold Addr.add; split <;> simp_all
    have hj : j < l.length := by
      rcases Nat.lt_or_ge j l.length with h' | h'
      · exact h'
      · rw [List.getElem?_eq_none (by rw [is_len]; exact h')] at hu; cases hu
    rw [e, h.cell hj]
    rw [is_at l j hj] at hu
    exact hu⟩⟩
end
theorem madeCells_is (n : Nat) : madeCells (Value.int .i64 0).cells n = (is (List.replicate n 0)).toArray := by
  have e : ∀ i : Nat, (Value.int .i64 0).cells[i % (Value.int .i64 0).cells.size]! = .int .i64 0 := fun i => by simp [Value.cells, Nat.mod_one]
  unfold madeCells
  rw [show (fun x => (Value.int .i64 0).cells[x % (Value.int .i64 0).cells.size]!) = fun _ => Value.int .i64 0 from funext e]
  apply Array.ext
  · simp [is]
  · intro i h1 h2; simp [is]
theorem run_make_i64 (t : TypeId) (ht : Tryz.prog.underlying t = some (.slice 2)) (n : Nat) (k : Int) (hk : k = n) (hn : n ≤ 10000000) (W : World) :
    (Instr.makeSlice t (.int .i64 k) (.int .i64 k)).run Tryz.prog W = .ok (.slice (some ⟨W.heap.size, 0, none⟩) n n) (W.alloc (.cells (is (List.replicate n 0)).toArray 2)) := by
  obtain ⟨i0, hi, hz0, hz1, hz2⟩ := info_parts info_i64
  subst hk
  rw [run_make W t 2 i0 (.int .i64 0) ht hi hz0 .i64 .i64 n n (by omega) (by omega) (by rw [hz2]; omega) (by omega)]
  simp only [Int.toNat_natCast, hz1, Nat.mul_one, madeCells_is]
end Go.Proofs.YtochabikpaoalaaGreat
