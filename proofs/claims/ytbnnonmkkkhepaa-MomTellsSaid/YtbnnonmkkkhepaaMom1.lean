/- Package mom: the reckoner, that keeps its first error. -/
import Derived.Test.YtbnnonmkkkhepaaFixA
import Derived.Test.YtbnnonmkkkhepaaIn64
import Derived.Laws.Rows
import Derived.Outline
namespace Go.Proofs.Ytbnnonmkkkhepaa
open Go.RowKit

/-- a block of two cells: a reckoner's f, and its error -/
def Rk (w : World) (r : Nat) (f e : Int) : Prop := w.heap[r]? = some (.cells #[.int .i64 f, .int .i64 e] 53 (0, 0))
section
variable {w w' : World} {r : Nat} {f e : Int}
theorem Rk.lt (h : Rk w r f e) : r < w.heap.size := by
  rcases Nat.lt_or_ge r w.heap.size with hlt | hge
  · exact hlt
  · unfold Rk at h; rw [Array.getElem?_eq_none hge] at h; cases h
theorem Rk.cell0 (h : Rk w r f e) : w.cell? ⟨r, 0, none⟩ = some (.int .i64 f) := cell_of_row w r 0 _ _ _ h
theorem Rk.cell1 (h : Rk w r f e) : w.cell? ⟨r, 1, none⟩ = some (.int .i64 e) := cell_of_row w r 1 _ _ _ h
theorem Rk.free0 (h : Rk w r f e) (i : Nat) : w.frozen? ⟨r, i, none⟩ = false := by unfold Rk at h; simp [World.frozen?, h]
theorem Rk.below (h : Rk w r f e) (hb : Below w.heap.size w w') : Rk w' r f e := (hb.block r h.lt).trans h
theorem Rk.set_ (h : Rk w r f e) (x : Int) : Rk (w.setCell ⟨r, 1, none⟩ (.int .i64 x)) r f x := by
  unfold Rk at h ⊢
  simp [World.setCell, Array.getElem?_modify, h]
theorem Rk.alloc (h : Rk w r f e) (o : Obj) : Rk (w.alloc o) r f e := (Below.heap_alloc w o r h.lt).trans h
end
theorem only_refl (w : World) (row : Option Nat) : w.grownBy w row := World.grownBy.refl w row
theorem only_setCell {a w : World} {g : Nat} (h : a.grownBy w (some g)) {p : Addr} (hp : p.block = g ∨ a.heap.size ≤ p.block) (u : Value) : a.grownBy (w.setCell p u) (some g) :=
  ⟨h.os, h.tape, h.output, by simpa [World.setCell] using h.size, fun i hi hne => (Below.heap_setCell w p u i (by
    rintro rfl
    rcases hp with hp | hp
    · exact hne (by rw [hp])
    · omega)).trans (h.block i hi hne)⟩
theorem only_of_below {a w : World} (h : Below a.heap.size a w) (row : Option Nat) : a.grownBy w row := ⟨h.os, h.tape, h.output, h.size, fun i hi _ => h.block i hi⟩
theorem only_trans {a b c : World} {row : Option Nat} (h : a.grownBy b row) (k : b.grownBy c row) : a.grownBy c row :=
  ⟨k.os.trans h.os, k.tape.trans h.tape, k.output.trans h.output, Nat.le_trans h.size k.size, fun i hi hn => (k.block i (Nat.lt_of_lt_of_le hi h.size) hn).trans (h.block i hi hn)⟩

set_option maxHeartbeats 1000000 in
theorem kept_any (r : Nat) (f e n x : Int) (w : World) (h : Rk w r f e) :
    Calls Try.prog 60 #[.pointer (some ⟨r, 0, none⟩), .int .i64 n, .int .i64 x] w fun a w' => a = .returned (.int .i64 n) ∧ Rk w' r f (joinE e x) ∧ w.grownBy w' (some r) := by
  have c1 := h.cell1
  have z1 := h.free0 1
  by_cases he : e = 0
  · subst he
    rw [show joinE 0 x = x from rfl]
    go_enter Try.func60, Try.ntmps60
    go_wp2
    go_ret
    exact ⟨rfl, h.set_ x, only_setCell (only_refl w _) (.inl rfl) _⟩
  · rw [show joinE e x = e from if_neg he]
    have hd : (e == 0) = false := by simpa using he
    have He := Lib.hid he
    clear he
    go_enter Try.func60, Try.ntmps60
    go_wp2
    go_ret
    exact ⟨rfl, h, only_refl w _⟩
set_option maxHeartbeats 1000000 in
theorem kmul_any (r : Nat) (f : Nat) (e a b : Int) (w : World) (hf : f ≤ 40) (ha : In64 a) (hb : In64 b) (h : Rk w r f e) :
    Calls Try.prog 38 #[.pointer (some ⟨r, 0, none⟩), .int .i64 a, .int .i64 b] w fun x w' => x = .returned (.int .i64 (fitV (mulZ a b f))) ∧ Rk w' r f (joinE e (fitE (mulZ a b f))) ∧ w.grownBy w' (some r) := by
  have c0 := h.cell0
  have hM := fun w => fmul_any a b f hf ha.1 ha.2 hb.1 hb.2 w
  generalize mulZ a b f = z at *
  clear ha hb hf
  go_enter Try.func38, Try.ntmps38
  go_wp2_with fail
  refine (hM _).mono ?_
  rintro y w1 ⟨rfl, b1⟩
  have h1 := h.below b1
  go_wp2_with fail
  refine (kept_any r f e (fitV z) (fitE z) w1 h1).mono ?_
  rintro y w2 ⟨rfl, h2, g2⟩
  go_wp2
  go_ret
  exact ⟨rfl, h2, only_trans (only_of_below b1 _) g2⟩
set_option maxHeartbeats 1000000 in
theorem kadd_any (r : Nat) (f e a b : Int) (w : World) (ha : In64 a) (hb : In64 b) (h : Rk w r f e) :
    Calls Try.prog 37 #[.pointer (some ⟨r, 0, none⟩), .int .i64 a, .int .i64 b] w fun x w' => x = .returned (.int .i64 (fitV (a + b))) ∧ Rk w' r f (joinE e (fitE (a + b))) ∧ w.grownBy w' (some r) := by
  have hM := fun w => fadd_any a b ha.1 ha.2 hb.1 hb.2 w
  generalize a + b = z at *
  clear ha hb
  go_enter Try.func37, Try.ntmps37
  go_wp2_with fail
  refine (hM _).mono ?_
  rintro y w1 ⟨rfl, rfl⟩
  go_wp2_with fail
  refine (kept_any r f e (fitV z) (fitE z) _ h).mono ?_
  rintro y w2 ⟨rfl, h2, g2⟩
  go_wp2
  go_ret
  exact ⟨rfl, h2, g2⟩
set_option maxHeartbeats 1000000 in
theorem ksub_any (r : Nat) (f e a b : Int) (w : World) (ha : In64 a) (hb : In64 b) (h : Rk w r f e) :
    Calls Try.prog 39 #[.pointer (some ⟨r, 0, none⟩), .int .i64 a, .int .i64 b] w fun x w' => x = .returned (.int .i64 (fitV (a - b))) ∧ Rk w' r f (joinE e (fitE (a - b))) ∧ w.grownBy w' (some r) := by
  have hM := fun w => fsub_any a b ha.1 ha.2 hb.1 hb.2 w
  generalize a - b = z at *
  clear ha hb
  go_enter Try.func39, Try.ntmps39
  go_wp2_with fail
  refine (hM _).mono ?_
  rintro y w1 ⟨rfl, rfl⟩
  go_wp2_with fail
  refine (kept_any r f e (fitV z) (fitE z) _ h).mono ?_
  rintro y w2 ⟨rfl, h2, g2⟩
  go_wp2
  go_ret
  exact ⟨rfl, h2, g2⟩
end Go.Proofs.Ytbnnonmkkkhepaa
