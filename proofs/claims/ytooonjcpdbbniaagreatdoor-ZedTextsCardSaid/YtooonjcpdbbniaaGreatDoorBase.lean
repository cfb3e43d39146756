/- Words for memory that the walks over this seat share: a slice that reads as a list, kept over what memory does. No conditions beyond those of each lemma. -/
import Derived.Test.YtooonjcpdbbniaaGreatDoorChecked
import Derived.WalkKit
import Derived.Below
import Derived.Laws.OwnMore
import Derived.Deep.AppendLies
import Derived.Deep.Draws
import Derived.Lib.Hide
import Derived.Test.YtooonjcpdbbniaaGreatDoorMath
import Derived.Deep.QuietTactic
import Derived.Tactics
import Derived.BigQuiet
import Derived.Laws.Rows
import Derived.Laws.AppendOwn
namespace Go.Proofs.YtooonjcpdbbniaaGreatDoor
open Go.RowKit

theorem block_of_add (a : Addr) (n : Nat) : (a.add n).block = a.block := by unfold Addr.add; split <;> rfl
theorem add_of_add (a : Addr) (i j : Nat) : (a.add i).add j = a.add (i + j) := by
  unfold Addr.add
  by_cases hi : i = 0 <;> by_cases hj : j = 0 <;> simp [hi, hj, Nat.add_assoc]

def Reads (w : World) (B size : Nat) (A : Option Addr) (n : Nat) (xs : List Value) : Prop :=
  xs.length = n * size ∧ (0 < n → ∃ ad, A = some ad ∧ ad.block < B ∧ ∀ j u, xs[j]? = some u → w.cell? (ad.add j) = some u)

section
variable {w w' : World} {B B' size n : Nat} {A : Option Addr} {xs : List Value}
theorem Reads.none_ : Reads w B size A 0 [] := ⟨by simp, fun h => absurd h (by omega)⟩
theorem Reads.at_ {k : Nat} (h : Reads w B 1 A n xs) (hk : k < n) : ∃ ad u, A = some ad ∧ ad.block < B ∧ xs[k]? = some u ∧ w.cell? (ad.add k) = some u := by
  obtain ⟨ad, e, hb, hc⟩ := h.2 (by omega)
  have hl : k < xs.length := by have := h.1; omega
  exact ⟨ad, xs[k], e, hb, List.getElem?_eq_getElem hl, hc k _ (List.getElem?_eq_getElem hl)⟩
theorem Reads.keep (h : Reads w B size A n xs) (hk : ∀ p : Addr, p.block < B → w'.cell? p = w.cell? p) : Reads w' B size A n xs :=
  ⟨h.1, fun hn => by
    obtain ⟨ad, e, hb, hc⟩ := h.2 hn
    exact ⟨ad, e, hb, fun j u hu => (hk _ (by rw [block_of_add]; exact hb)).trans (hc j u hu)⟩⟩
theorem Reads.more (h : Reads w B size A n xs) (hB : B ≤ B') : Reads w B' size A n xs :=
  ⟨h.1, fun hn => by
    obtain ⟨ad, e, hb, hc⟩ := h.2 hn
    exact ⟨ad, e, by omega, hc⟩⟩
theorem Reads.below (h : Reads w B size A n xs) (hb : Below B w w') : Reads w' B size A n xs := h.keep fun _ hp => hb.cell hp
theorem Reads.drew (h : Reads w B size A n xs) : Reads w.drew B size A n xs := h
theorem Reads.drewN (h : Reads w B size A n xs) (k : Nat) : Reads (w.drewN k) B size A n xs := h
theorem Reads.alloc (h : Reads w B size A n xs) (hB : B ≤ w.heap.size) (o : Obj) : Reads (w.alloc o) B size A n xs := h.keep fun p hp => World.cell?_alloc_lt w o p (by omega)
theorem Reads.setCell (h : Reads w B size A n xs) {p : Addr} (hB : B ≤ p.block) (u : Value) : Reads (w.setCell p u) B size A n xs :=
  h.keep fun q hq => World.cell?_setCell_other w p q u (fun e => by subst e; omega)
theorem Reads.grown (h : Reads w B size A n xs) {row : Option Nat} (hg : w.grownBy w' row) (hB : B ≤ w.heap.size) (hr : ∀ g, row = some g → B ≤ g) : Reads w' B size A n xs :=
  h.keep fun p hp => World.cell?_of_block (hg.block p.block (by omega) (fun e => by have := hr _ e.symm; omega))
theorem Reads.of_own {base : Nat} {e : TypeId} {c : Nat} (h : w.ownsRow base e size (.slice A n c) n xs) : Reads w w.heap.size size A n xs := by
  refine ⟨h.1, fun hn => ?_⟩
  obtain ⟨g, cap, hv, _, hlt⟩ := h.form hn
  have hA : A = some ⟨g, 0, none⟩ := by injection hv
  subst hA
  exact ⟨_, rfl, hlt, h.cells (g := g) rfl⟩
end
theorem below_drewN {B : Nat} {a w : World} (h : Below B a w) (n : Nat) : Below B a (w.drewN n) := ⟨h.os, h.tape, h.output, h.size, h.block⟩

theorem ret_bool {a b : Bool} (h : a = b) : Ending.returned (.bool a) = Ending.returned (.bool b) := by rw [h]
theorem ret_int {k : IntKind} {a b : Int} (h : a = b) : Ending.returned (.int k a) = Ending.returned (.int k b) := by rw [h]

theorem nat_ne0 (x : Nat) : (((x : Nat) : Int) != 0) = !decide (x = 0) := by
  rcases Nat.eq_zero_or_pos x with h | h
  · subst h; rfl
  · rw [bne_iff_ne.2 (by omega), decide_eq_false (by omega)]; rfl
theorem nat_eq0 (x : Nat) : (((x : Nat) : Int) == 0) = decide (x = 0) := by
  rcases Nat.eq_zero_or_pos x with h | h
  · subst h; rfl
  · rw [beq_eq_false_iff_ne.2 (by omega), decide_eq_false (by omega)]

/-- limbs as cells -/
def us (l : List Nat) : List Value := l.map fun (n : Nat) => Value.int .u64 (n : Int)
theorem us_len (l : List Nat) : (us l).length = l.length := by simp [us]
theorem us_at (l : List Nat) (j : Nat) (h : j < l.length) : (us l)[j]? = some (.int .u64 ((l[j]?.getD 0 : Nat) : Int)) := by simp [us, h]
/-- the value is a slice that reads as these limbs -/
def IsL (w : World) (v : Value) (l : List Nat) : Prop :=
  ∃ (A : Option Addr) (c : Nat), v = .slice A l.length c ∧ l.length ≤ c ∧ c ≤ 9223372036854775807 ∧ Bd l ∧ Reads w w.heap.size 1 A l.length (us l)
/-- the value is the limbs of this number -/
def IsN (w : World) (v : Value) (n : Nat) : Prop := IsL w v (limbs n)

section
variable {w w' : World} {v : Value} {l : List Nat} {n : Nat}
theorem IsL.below (h : IsL w v l) (hb : Below w.heap.size w w') : IsL w' v l := by
  obtain ⟨A, c, e, h1, h2, h3, h4⟩ := h
  exact ⟨A, c, e, h1, h2, h3, (h4.below hb).more hb.size⟩
theorem IsN.below (h : IsN w v n) (hb : Below w.heap.size w w') : IsN w' v n := IsL.below h hb
theorem IsL.nil (w : World) : IsL w (.slice none 0 0) [] := ⟨none, 0, rfl, by simp, by omega, Bd.nil, Reads.none_⟩
theorem IsN.zero (w : World) : IsN w (.slice none 0 0) 0 := by unfold IsN; rw [limbs_zero]; exact IsL.nil w
theorem IsL.at_ (h : IsL w v l) : ∃ (A : Option Addr) (c : Nat), v = .slice A l.length c ∧ l.length ≤ c ∧ c ≤ 9223372036854775807 ∧ Bd l ∧ Reads w w.heap.size 1 A l.length (us l) := h
theorem us_cell {A : Option Addr} {k m B : Nat} (h : Reads w B 1 A m (us l)) (hk : k < m) : ∃ ad, A = some ad ∧ ad.block < B ∧ w.cell? (ad.add k) = some (.int .u64 ((lat l k : Nat) : Int)) := by
  obtain ⟨ad, u, rfl, hb, hx, hc⟩ := h.at_ hk
  have hl : k < l.length := by have := h.1; rw [us_len] at this; omega
  rw [us_at _ _ hl] at hx
  obtain rfl := Option.some.inj hx
  exact ⟨ad, rfl, hb, hc⟩
theorem us_cell0 {A : Option Addr} {m B : Nat} (h : Reads w B 1 A m (us l)) (hk : 0 < m) : ∃ ad, A = some ad ∧ ad.block < B ∧ w.cell? ad = some (.int .u64 ((lat l 0 : Nat) : Int)) := by
  obtain ⟨ad, e, hb, hc⟩ := us_cell h hk
  exact ⟨ad, e, hb, by simpa [Addr.add] using hc⟩
theorem Reads.shorter {A : Option Addr} {m k B : Nat} (h : Reads w B 1 A m (us l)) (hk : k ≤ m) : Reads w B 1 A k (us (l.take k)) := by
  have hl := h.1
  rw [us_len] at hl
  refine ⟨by rw [us_len]; simp; omega, fun h0 => ?_⟩
  obtain ⟨ad, e, hb, hc⟩ := h.2 (by omega)
  refine ⟨ad, e, hb, fun j u hu => hc j u ?_⟩
  have hj : j < k := by
    rcases Nat.lt_or_ge j k with h' | h'
    · exact h'
    · rw [List.getElem?_eq_none (by rw [us_len]; simp; omega)] at hu; cases hu
  rw [← hu]; unfold us
  rw [List.map_take, List.getElem?_take, if_pos hj]
/-- the row of a value lies in blocks from this one on -/
def Fresh (B : Nat) (v : Value) : Prop := ∀ g, v.ownBlock = some g → B ≤ g
theorem Fresh.more {B B' : Nat} {v : Value} (h : Fresh B v) (hB : B' ≤ B) : Fresh B' v := fun g e => Nat.le_trans hB (h g e)
theorem Fresh.ne {B g : Nat} {v : Value} (h : Fresh B v) (hg : g < B) : v.ownBlock ≠ some g := fun e => by have := h g e; omega
theorem Fresh.of_own {base : Nat} {e : TypeId} {size n : Nat} {xs : List Value} (h : w.ownsRow base e size v n xs) : Fresh base v := fun g eg => (h.lt g eg).1
theorem IsL.far (h : IsL w v l) {p : Addr} (hp : v.ownBlock ≠ some p.block) (u : Value) : IsL (w.setCell p u) v l := by
  obtain ⟨A, c, rfl, h1, h2, h3, h4⟩ := h
  refine ⟨A, c, rfl, h1, h2, h3, h4.1, fun hn => ?_⟩
  obtain ⟨ad, rfl, hb, hc⟩ := h4.2 hn
  refine ⟨ad, rfl, by simpa [World.setCell] using hb, fun j y hj => (World.cell?_setCell_other w p _ u (fun e => hp ?_)).trans (hc j y hj)⟩
  show some ad.block = some p.block
  rw [e, block_of_add]
theorem IsN.far (h : IsN w v n) {p : Addr} (hp : v.ownBlock ≠ some p.block) (u : Value) : IsN (w.setCell p u) v n := IsL.far h hp u
/-- a block that was just made reads as what lies in it -/
theorem Reads.fresh (w : World) (t : TypeId) (xs : List Value) (n : Nat) (h : n = xs.length) : Reads (w.alloc (.cells xs.toArray t)) (w.heap.size + 1) 1 (some ⟨w.heap.size, 0, none⟩) n xs := by
  refine ⟨by omega, fun _ => ⟨_, rfl, by simp, fun j u hu => ?_⟩⟩
  have e : Addr.add ⟨w.heap.size, 0, none⟩ j = ⟨w.heap.size, j, none⟩ := by unfold Addr.add; split <;> simp_all
  rw [e, World.cell?_alloc_at _ _ _ _ rfl]
  simpa using hu
theorem IsL.fresh (w : World) (t : TypeId) (l : List Nat) (hb : Bd l) (hl : l.length ≤ 9223372036854775807) : IsL (w.alloc (.cells (us l).toArray t)) (.slice (some ⟨w.heap.size, 0, none⟩) l.length l.length) l :=
  ⟨_, _, rfl, Nat.le_refl _, hl, hb, by simpa using Reads.fresh w t (us l) l.length (us_len l).symm⟩
end
end Go.Proofs.YtooonjcpdbbniaaGreatDoor
namespace Go.Proofs.YtooonjcpdbbniaaGreatDoor
open Go.RowKit
theorem quiet_add {P : Program} {f : FuncId} {args : Array Value} {w : World} {a n : Nat} {v : Value}
    (h : Calls P f args (w.drewN (a + n)) fun e w' => e = .returned v ∧ ∃ m, w' = (w.drewN (a + n)).drewN m) :
    Calls P f args (w.drewN (a + n)) fun e w'' => e = .returned v ∧ ∃ m, w'' = w.drewN (a + m) :=
  h.mono fun _ _ ⟨he, m, hm⟩ => ⟨he, n + m, by rw [hm, World.drewN_drewN, Nat.add_assoc]⟩
theorem quiet_add_left {P : Program} {f : FuncId} {args : Array Value} {w : World} {a n : Nat} {v : Value}
    (h : Calls P f args (w.drewN (a + n)) fun e w' => e = .returned v ∧ w.drewN (a + n) = w') :
    Calls P f args (w.drewN (a + n)) fun e w'' => e = .returned v ∧ ∃ m, w'' = w.drewN (a + m) :=
  h.mono fun _ _ ⟨he, hm⟩ => ⟨he, n, hm.symm⟩
theorem quiet_left {P : Program} {f : FuncId} {args : Array Value} {w : World} {n : Nat} {v : Value}
    (h : Calls P f args (w.drewN n) fun e w' => e = .returned v ∧ w.drewN n = w') : Calls P f args (w.drewN n) fun e w'' => e = .returned v ∧ ∃ m, w'' = w.drewN m :=
  h.mono fun _ _ ⟨he, hm⟩ => ⟨he, n, hm.symm⟩
theorem results_tmp4 {fn : Func} {t u v x : Tmp} (h : fn.results = #[.tmp t, .tmp u, .tmp v, .tmp x]) (tmps : Array Value) (P : Program) (w : World) :
    (results fn tmps).run P w = .ok (.tuple #[tmps.getD t undef, tmps.getD u undef, tmps.getD v undef, tmps.getD x undef]) w := by simp [results, h]
end Go.Proofs.YtooonjcpdbbniaaGreatDoor
namespace Go.Proofs.YtooonjcpdbbniaaGreatDoor
open Go.RowKit
theorem lay1 {α : Type _} {xs : List α} {i : Nat} (h : i < xs.toArray.size) : xs.toArray[i] = xs[i]'h := rfl
theorem lay2 {α : Type _} {a : α} {xs : List α} {i : Nat} (h : i + 1 < (a :: xs).length) : (a :: xs)[i+1] = xs[i]'(Nat.lt_of_succ_lt_succ h) := rfl
theorem lay3 {α : Type _} {a : α} {xs : List α} (h : 0 < (a :: xs).length) : (a :: xs)[0] = a := rfl
theorem lay4 {α : Type _} (l : List α) (i : Nat) (a : α) : l.toArray.setIfInBounds i a = (l.set i a).toArray := List.setIfInBounds_toArray l i a
theorem lay5 {α : Type _} {x : α} {xs : List α} {a : α} : (x :: xs).set 0 a = a :: xs := rfl
theorem lay6 {α : Type _} {x : α} {xs : List α} {i : Nat} {a : α} : (x :: xs).set (i + 1) a = x :: xs.set i a := rfl
def Blk (w : World) (g : Nat) (t : TypeId) (cs : Array Value) : Prop := w.heap[g]? = some (.cells cs t (0, 0))
section
variable {w w' : World} {g : Nat} {t : TypeId} {cs : Array Value}
theorem Blk.lt (h : Blk w g t cs) : g < w.heap.size := by
  rcases Nat.lt_or_ge g w.heap.size with hlt | hge
  · exact hlt
  · unfold Blk at h; rw [Array.getElem?_eq_none hge] at h; cases h
theorem Blk.cell (h : Blk w g t cs) (i : Nat) : w.cell? ⟨g, i, none⟩ = cs[i]? := cell_of_row w g i cs t (0, 0) h
theorem Blk.frozen (h : Blk w g t cs) (i : Nat) : w.frozen? ⟨g, i, none⟩ = false := by
  unfold Blk at h
  simp [World.frozen?, h]
theorem Blk.new (w : World) (t : TypeId) (cs : Array Value) : Blk (w.alloc (.cells cs t)) w.heap.size t cs := heap_alloc_new w _
theorem Blk.drew (h : Blk w g t cs) : Blk w.drew g t cs := h
theorem Blk.drewN (h : Blk w g t cs) (n : Nat) : Blk (w.drewN n) g t cs := h
theorem Blk.alloc (h : Blk w g t cs) (o : Obj) : Blk (w.alloc o) g t cs := (Below.heap_alloc w o g h.lt).trans h
theorem Blk.set_ (h : Blk w g t cs) (i : Nat) (u : Value) : Blk (w.setCell ⟨g, i, none⟩ u) g t (cs.setIfInBounds i u) := by
  unfold Blk at h ⊢
  simp [World.setCell, Array.getElem?_modify, h]
theorem Blk.far (h : Blk w g t cs) {p : Addr} (hp : g ≠ p.block) (u : Value) : Blk (w.setCell p u) g t cs := (Below.heap_setCell w p u g hp).trans h
theorem Blk.below {B : Nat} (h : Blk w g t cs) (hb : Below B w w') (hg : g < B) : Blk w' g t cs := (hb.block g hg).trans h
theorem Blk.grown {row : Option Nat} (h : Blk w g t cs) (hb : w.grownBy w' row) (hg : some g ≠ row) : Blk w' g t cs := (hb.block g h.lt hg).trans h
end
end Go.Proofs.YtooonjcpdbbniaaGreatDoor
