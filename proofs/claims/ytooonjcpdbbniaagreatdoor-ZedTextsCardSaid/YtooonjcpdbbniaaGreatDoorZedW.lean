/- Words for integers of any size: a side and limbs. The document's smallest functions on them. -/
import Derived.Test.YtooonjcpdbbniaaGreatDoorRef2
import Derived.Test.YtooonjcpdbbniaaGreatDoorBase
import Derived.Test.YtooonjcpdbbniaaGreatDoorMath
import Derived.Deep.RegionHeld3
import Derived.Deep.DrawnRows
namespace Go.Proofs.YtooonjcpdbbniaaGreatDoor
open Go.RowKit
attribute [local go_sem ↓] Go.wp_at_zero Go.wp_at_succ

/-- the value is this integer -/
def IsZ (w : World) (v : Value) (z : Int) : Prop := ∃ nv, v = .agg #[.bool (decide (z < 0)), nv] ∧ IsN w nv z.natAbs
theorem IsZ.below {w w' : World} {v : Value} {z : Int} (h : IsZ w v z) (hb : Below w.heap.size w w') : IsZ w' v z := by
  obtain ⟨nv, e, h⟩ := h; exact ⟨nv, e, h.below hb⟩
theorem sided_neg (b : Bool) (n : Nat) : decide (sided b n < 0) = (b && decide (n ≠ 0)) := by
  unfold sided; cases b
  · simp
  · simp only [if_true, Bool.true_and]; rw [Bool.eq_iff_iff]; simp; omega
theorem sided_abs (b : Bool) (n : Nat) : (sided b n).natAbs = n := by unfold sided; cases b <;> simp
theorem IsZ.sided {w : World} {nv : Value} {b : Bool} {n : Nat} (h : IsN w nv n) : IsZ w (.agg #[.bool (b && decide (n ≠ 0)), nv]) (sided b n) :=
  ⟨nv, by rw [sided_neg], by rw [sided_abs]; exact h⟩
theorem sided_of (z : Int) : sided (decide (z < 0)) z.natAbs = z := by
  unfold sided; by_cases h : z < 0 <;> simp [h] <;> omega

set_option maxHeartbeats 1000000 in
theorem rmade_any (b : Bool) (nv : Value) (n : Nat) (w : World) (h : IsN w nv n) :
    Calls Tryz.prog 31 #[.bool b, nv] w fun e w' => ∃ v', e = .returned v' ∧ IsZ w' v' (sided b n) ∧ Below w.heap.size w w' := by
  have hr := fun (w' : World) (h : IsN w' nv n) => IsZ.sided (b := b) h
  have h' := h
  obtain ⟨A, c, rfl, _⟩ := h
  have hn : decide (n ≠ 0) = decide (0 < (limbs n).length) := by
    rw [Bool.eq_iff_iff]; simp only [decide_eq_true_eq]
    constructor
    · intro h0; exact List.length_pos_iff.2 (fun e => h0 (limbs_nil.1 e))
    · intro h0 e; rw [e, limbs_zero] at h0; simp at h0
  rw [hn] at hr
  have R := Lib.hid hr
  have HI := Lib.hid h'
  clear hr hn h'
  generalize (limbs n).length = m at *
  have B0 := fun b => (Below.refl w.heap.size w).alloc (Nat.le_refl _) (.cells #[.bool b, .slice A m c] 25)
  have HB := Lib.hid B0
  clear B0
  cases b
  · go_enter Tryz.func31, Tryz.ntmps31
    go_wp2
    exact bodyPost_ret (v := .agg #[.bool false, .slice A m c]) (by simp [results, Tryz.results31, go_sem]) rfl ⟨_, rfl, R.out _ (HI.out.below (HB.out _)), HB.out _⟩
  · by_cases hm : 0 < m
    · have R1 := fun w' h => (show IsZ w' (.agg #[.bool true, .slice A m c]) (sided true n) by have := R.out w' h; rwa [decide_eq_true hm] at this)
      have R2 := Lib.hid R1
      clear R1
      go_enter Tryz.func31, Tryz.ntmps31
      go_wp2
      exact bodyPost_ret (v := .agg #[.bool true, .slice A m c]) (by simp [results, Tryz.results31, go_sem]) rfl ⟨_, rfl, R2.out _ (HI.out.below (HB.out _)), HB.out _⟩
    · have R1 := fun w' h => (show IsZ w' (.agg #[.bool false, .slice A m c]) (sided true n) by have := R.out w' h; rwa [decide_eq_false hm] at this)
      have R2 := Lib.hid R1
      obtain rfl : m = 0 := by omega
      clear R1
      go_enter Tryz.func31, Tryz.ntmps31
      go_wp2
      exact bodyPost_ret (v := .agg #[.bool false, .slice A 0 c]) (by simp [results, Tryz.results31, go_sem]) rfl ⟨_, rfl, R2.out _ (HI.out.below (HB.out _)), HB.out _⟩
end Go.Proofs.YtooonjcpdbbniaaGreatDoor
namespace Go.Proofs.YtooonjcpdbbniaaGreatDoor
open Go.RowKit

def noU : Value → Bool
  | .int .u64 _ => false
  | _ => true
section
variable {w w' : World} {v : Value} {n R : Nat} {l : List Nat} {t t' : TypeId} {cs cs' : Array Value}
theorem IsL.keepBlk (h : IsL w v l) (hR : Blk w R t cs) (hcs : cs.all noU = true) (hw : ∀ k, k ≠ R → w'.heap[k]? = w.heap[k]?) (hsz : w.heap.size ≤ w'.heap.size) : IsL w' v l := by
  obtain ⟨A, c, rfl, h1, h2, h3, h4⟩ := h
  refine ⟨A, c, rfl, h1, h2, h3, h4.1, fun hn => ?_⟩
  obtain ⟨ad, rfl, hb, hc⟩ := h4.2 hn
  refine ⟨ad, rfl, by omega, fun j y hj => ?_⟩
  have hne : ad.block ≠ R := by
    intro e
    have hl := h4.1
    have h0 := hc 0 _ (us_at l 0 (by rw [us_len] at hl; omega))
    obtain ⟨b, off, sp⟩ := ad
    dsimp only at e; subst e
    rw [Addr.add, if_pos rfl] at h0
    have hsp : sp = none := World.cell?_spot h0
    subst hsp
    rw [hR.cell] at h0
    have := Array.all_eq_true_iff_forall_mem.1 hcs _ (Array.mem_of_getElem? h0)
    simp [noU] at this
  rw [← hc j y hj]
  exact World.cell?_of_block (by rw [block_of_add]; exact hw _ hne)
theorem IsN.keepBlk (h : IsN w v n) (hR : Blk w R t cs) (hcs : cs.all noU = true) (hw : ∀ k, k ≠ R → w'.heap[k]? = w.heap[k]?) (hsz : w.heap.size ≤ w'.heap.size) : IsN w' v n := IsL.keepBlk h hR hcs hw hsz
/-- a draw of an order changes nothing that is looked at -/
theorem undrew {B : Nat} {a x : World} (h : Below B a.drew x) : Below B a x := ⟨h.os, h.tape, h.output, h.size, h.block⟩
theorem balloc {a y : World} (h : Below a.heap.size a y) (o : Obj) : Below a.heap.size a (y.alloc o) := h.alloc h.size o
theorem bstep {a y z : World} (h : Below a.heap.size a y) (b : Below y.heap.size y z) : Below a.heap.size a z := h.trans (b.mono h.size)
theorem bdrew (a : World) : Below a.heap.size a a.drew := (Below.refl _ _).drew
theorem bset {B : Nat} {a y : World} (h : Below B a y) {X i : Nat} (hX : B ≤ X) (u : Value) : Below B a (y.setCell ⟨X, i, none⟩ u) := h.setCell (p := ⟨X, i, none⟩) hX u
/-- two boxes, one behind the other -/
def Two (w : World) (g : Nat) (t : TypeId) (cs : Array Value) (t' : TypeId) (cs' : Array Value) : Prop := Blk w g t cs ∧ Blk w (g + 1) t' cs'
theorem Two.below {g B : Nat} (h : Two w g t cs t' cs') (hb : Below B w w') (hB : g + 1 < B) : Two w' g t cs t' cs' := ⟨h.1.below hb (by omega), h.2.below hb hB⟩
theorem Two.lt {g : Nat} (h : Two w g t cs t' cs') : g + 1 < w.heap.size := h.2.lt
theorem Two.cells22 {g : Nat} {a b c d : Value} (h : Two w g t #[a, b] t' #[c, d]) : w.cell? ⟨g, 0, none⟩ = some a ∧ w.cell? ⟨g, 1, none⟩ = some b ∧ w.cell? ⟨g + 1, 0, none⟩ = some c ∧ w.cell? ⟨g + 1, 1, none⟩ = some d :=
  ⟨h.1.cell 0, h.1.cell 1, h.2.cell 0, h.2.cell 1⟩
theorem Two.cells33 {g : Nat} {a b c d e f : Value} (h : Two w g t #[a, b, c] t' #[d, e, f]) : w.cell? ⟨g, 0, none⟩ = some a ∧ w.cell? ⟨g, 1, none⟩ = some b ∧ w.cell? ⟨g, 2, none⟩ = some c ∧ w.cell? ⟨g + 1, 0, none⟩ = some d ∧ w.cell? ⟨g + 1, 1, none⟩ = some e ∧ w.cell? ⟨g + 1, 2, none⟩ = some f :=
  ⟨h.1.cell 0, h.1.cell 1, h.1.cell 2, h.2.cell 0, h.2.cell 1, h.2.cell 2⟩
theorem Blk.cells2 {g : Nat} {a b : Value} (h : Blk w g t #[a, b]) : w.cell? ⟨g, 0, none⟩ = some a ∧ w.cell? ⟨g, 1, none⟩ = some b := ⟨h.cell 0, h.cell 1⟩
theorem Blk.cells3 {g : Nat} {a b c : Value} (h : Blk w g t #[a, b, c]) : w.cell? ⟨g, 0, none⟩ = some a ∧ w.cell? ⟨g, 1, none⟩ = some b ∧ w.cell? ⟨g, 2, none⟩ = some c := ⟨h.cell 0, h.cell 1, h.cell 2⟩
theorem Blk.far1 {g : Nat} (h : Blk w g t cs) {i : Nat} (hR : g < R) (x : Value) : Blk (w.setCell ⟨R, i, none⟩ x) g t cs := h.far (p := ⟨R, i, none⟩) (show g ≠ R by omega) x
theorem Two.far2 {g : Nat} (h : Two w g t cs t' cs') (x y : Value) : Two ((w.setCell ⟨g + 1 + 1, 0, none⟩ x).setCell ⟨g + 1 + 1, 1, none⟩ y) g t cs t' cs' :=
  ⟨(h.1.far1 (by omega) x).far1 (by omega) y, (h.2.far1 (by omega) x).far1 (by omega) y⟩
theorem Two.far3 {g : Nat} (h : Two w g t cs t' cs') (x y z : Value) : Two (((w.setCell ⟨g + 1 + 1, 0, none⟩ x).setCell ⟨g + 1 + 1, 1, none⟩ y).setCell ⟨g + 1 + 1, 2, none⟩ z) g t cs t' cs' :=
  ⟨((h.1.far1 (by omega) x).far1 (by omega) y).far1 (by omega) z, ((h.2.far1 (by omega) x).far1 (by omega) y).far1 (by omega) z⟩
theorem Blk.far2 {g : Nat} (h : Blk w g t cs) (x y : Value) : Blk ((w.setCell ⟨g + 1, 0, none⟩ x).setCell ⟨g + 1, 1, none⟩ y) g t cs := (h.far1 (by omega) x).far1 (by omega) y
theorem Blk.far3 {g : Nat} (h : Blk w g t cs) (x y z : Value) : Blk (((w.setCell ⟨g + 1, 0, none⟩ x).setCell ⟨g + 1, 1, none⟩ y).setCell ⟨g + 1, 2, none⟩ z) g t cs := ((h.far1 (by omega) x).far1 (by omega) y).far1 (by omega) z
theorem Blk.farX {X : Nat} (h : Blk w R t cs) (hX : R ≠ X) (x y z : Value) : Blk (((w.setCell ⟨X, 0, none⟩ x).setCell ⟨X, 1, none⟩ y).setCell ⟨X, 2, none⟩ z) R t cs := ((h.far (p := ⟨X, 0, none⟩) hX x).far (p := ⟨X, 1, none⟩) hX y).far (p := ⟨X, 2, none⟩) hX z
theorem IsN.frm (h : IsN w v n) : ∃ A m c, v = .slice A m c := by obtain ⟨A, c, e, _⟩ := h; exact ⟨A, _, c, e⟩
/-- two boxes of arguments and a box for the result, as they are made -/
theorem box3 (w : World) (t1 t2 t3 : TypeId) (c1 c2 c3 : Array Value) : ∃ W, W = ((w.alloc (.cells c1 t1)).alloc (.cells c2 t2)).alloc (.cells c3 t3) ∧ Two W w.heap.size t1 c1 t2 c2 ∧ Blk W (w.heap.size + 1 + 1) t3 c3 ∧ Below w.heap.size w W := by
  refine ⟨_, rfl, ⟨((Blk.new w t1 c1).alloc _).alloc _, ?_⟩, ?_, (((Below.refl _ w).alloc (Nat.le_refl _) _).alloc (by simp) _).alloc (by simp; omega) _⟩
  · have := Blk.new (w.alloc (.cells c1 t1)) t2 c2
    rw [World.size_alloc] at this; exact this.alloc _
  · have := Blk.new ((w.alloc (.cells c1 t1)).alloc (.cells c2 t2)) t3 c3
    rw [World.size_alloc, World.size_alloc] at this; exact this
theorem box2 (w : World) (t1 t2 : TypeId) (c1 c2 : Array Value) : ∃ W, W = (w.alloc (.cells c1 t1)).alloc (.cells c2 t2) ∧ Two W w.heap.size t1 c1 t2 c2 ∧ Below w.heap.size w W := by
  refine ⟨_, rfl, ⟨(Blk.new w t1 c1).alloc _, ?_⟩, ((Below.refl _ w).alloc (Nat.le_refl _) _).alloc (by simp) _⟩
  have := Blk.new (w.alloc (.cells c1 t1)) t2 c2
  rw [World.size_alloc] at this; exact this
theorem box1 (w : World) (t1 : TypeId) (c1 : Array Value) : ∃ W, W = w.alloc (.cells c1 t1) ∧ Blk W w.heap.size t1 c1 ∧ Below w.heap.size w W :=
  ⟨_, rfl, Blk.new w t1 c1, (Below.refl _ w).alloc (Nat.le_refl _) _⟩
/-- a box of the function's own, that is made somewhere ahead of a call -/
theorem newX {y z : World} (b : Below (y.alloc (.cells cs t)).heap.size (y.alloc (.cells cs t)) z) (a : World) (h : Below a.heap.size a y) : Blk z y.heap.size t cs ∧ a.heap.size ≤ y.heap.size :=
  ⟨(Blk.new y t cs).below b (by simp), h.size⟩
/-- what is stored into a box of two cells, of three -/
theorem put2 {a b : Value} (hR : Blk w R t #[a, b]) (x y : Value) (hcs : (#[a, b] : Array Value).all noU = true) {B : Nat} {w0 : World} (hB : Below B w0 w) (hBR : B ≤ R) :
    Blk ((w.setCell ⟨R, 0, none⟩ x).setCell ⟨R, 1, none⟩ y) R t #[x, y] ∧ (∀ v n, IsN w v n → IsN ((w.setCell ⟨R, 0, none⟩ x).setCell ⟨R, 1, none⟩ y) v n) ∧ Below B w0 ((w.setCell ⟨R, 0, none⟩ x).setCell ⟨R, 1, none⟩ y) := by
  refine ⟨?_, fun v n h => h.keepBlk hR hcs (fun k hk => (Below.heap_setCell _ ⟨R, 1, none⟩ y k hk).trans (Below.heap_setCell w ⟨R, 0, none⟩ x k hk)) (by simp [World.setCell]), (hB.setCell (p := ⟨R, 0, none⟩) hBR x).setCell (p := ⟨R, 1, none⟩) hBR y⟩
  have := (hR.set_ 0 x).set_ 1 y
  simpa using this
theorem put3 {a b c : Value} (hR : Blk w R t #[a, b, c]) (x y z : Value) (hcs : (#[a, b, c] : Array Value).all noU = true) {B : Nat} {w0 : World} (hB : Below B w0 w) (hBR : B ≤ R) :
    Blk (((w.setCell ⟨R, 0, none⟩ x).setCell ⟨R, 1, none⟩ y).setCell ⟨R, 2, none⟩ z) R t #[x, y, z] ∧ (∀ v n, IsN w v n → IsN (((w.setCell ⟨R, 0, none⟩ x).setCell ⟨R, 1, none⟩ y).setCell ⟨R, 2, none⟩ z) v n) ∧ Below B w0 (((w.setCell ⟨R, 0, none⟩ x).setCell ⟨R, 1, none⟩ y).setCell ⟨R, 2, none⟩ z) := by
  refine ⟨?_, fun v n h => h.keepBlk hR hcs (fun k hk => (Below.heap_setCell _ ⟨R, 2, none⟩ z k hk).trans ((Below.heap_setCell _ ⟨R, 1, none⟩ y k hk).trans (Below.heap_setCell w ⟨R, 0, none⟩ x k hk))) (by simp [World.setCell]), ((hB.setCell (p := ⟨R, 0, none⟩) hBR x).setCell (p := ⟨R, 1, none⟩) hBR y).setCell (p := ⟨R, 2, none⟩) hBR z⟩
  have := ((hR.set_ 0 x).set_ 1 y).set_ 2 z
  simpa using this
end
end Go.Proofs.YtooonjcpdbbniaaGreatDoor
namespace Go.Proofs.YtooonjcpdbbniaaGreatDoor
open Go.RowKit
attribute [local go_sem ↓] Go.wp_at_zero Go.wp_at_succ

set_option maxHeartbeats 1000000 in
theorem rzneg_any (v : Value) (z : Int) (w : World) (h : IsZ w v z) :
    Calls Tryz.prog 18 #[v] w fun e w' => ∃ v', e = .returned v' ∧ IsZ w' v' (-z) ∧ Below w.heap.size w w' := by
  obtain ⟨nv, rfl, hn⟩ := h
  have hM := fun w hn => rmade_any (!decide (z < 0)) nv z.natAbs w hn
  have hz : sided (!decide (z < 0)) z.natAbs = -z := by
    unfold sided; by_cases h : z < 0 <;> simp [h] <;> omega
  rw [hz] at hM
  obtain ⟨c, hc⟩ : ∃ c, c = -z := ⟨_, rfl⟩
  rw [← hc] at hM ⊢
  clear hz hc
  generalize decide (z < 0) = b at *
  generalize z.natAbs = n at *
  obtain ⟨W0, hW, hT, hB⟩ := box2 w 25 25 #[.bool b, nv] #[.bool false, .slice none 0 0]
  have hn := hn.below hB
  obtain ⟨g, hg⟩ : ∃ g, g = w.heap.size := ⟨_, rfl⟩
  have hW' := Lib.hid (And.intro hW hg)
  rw [← hg] at hT
  clear hW hg
  go_enter Tryz.func18, Tryz.ntmps18
  go_wp2_with fail
  rw [← hW'.out.1, ← hW'.out.2]
  refine (hM _ hn).mono ?_
  rintro e w1 ⟨v1, rfl, ⟨n1, rfl, h1⟩, b1⟩
  obtain ⟨A1, L1, C1, rfl⟩ := h1.frm
  have hT := hT.below b1 hT.lt
  have hB := hB.trans (b1.mono hB.size)
  have hR := hT.2
  have q0 := hR.cell 0
  have q1 := hR.cell 1
  have z0 := hR.frozen 0
  have z1 := hR.frozen 1
  obtain ⟨p1, p2, p3⟩ := put2 hR (.bool (decide (c < 0))) (.slice A1 L1 C1) (by simp [noU]) hB (by rw [hW'.out.2]; omega)
  have P := Lib.hid (And.intro (p2 _ _ h1) p3)
  clear p1 p2 p3 hR hM
  go_wp2
  exact bodyPost_ret (v := .agg #[.bool (decide (c < 0)), .slice A1 L1 C1]) (by simp [results, Tryz.results18, go_sem, q0, q1]) rfl ⟨_, rfl, ⟨_, rfl, P.out.1⟩, P.out.2⟩

theorem sided_mul (s1 s2 : Bool) (x y : Nat) : sided s1 x * sided s2 y = sided (s1 != s2) (x * y) := by
  cases s1 <;> cases s2 <;> simp [sided, Int.neg_mul, Int.mul_neg]
theorem mul_sided (a b : Int) : sided (decide (a < 0) != decide (b < 0)) (a.natAbs * b.natAbs) = a * b := by
  rw [← sided_mul, sided_of, sided_of]
set_option maxHeartbeats 2000000 in
theorem rzmul_any (va vb : Value) (a b : Int) (w : World) (ha : IsZ w va a) (hb : IsZ w vb b) (sa : Sz a.natAbs 400000) (sb : Sz b.natAbs 400000) :
    Calls Tryz.prog 16 #[va, vb] w fun e w' => ∃ v', e = .returned v' ∧ IsZ w' v' (a * b) ∧ Below w.heap.size w w' := by
  obtain ⟨na, rfl, ha⟩ := ha
  obtain ⟨nb, rfl, hb⟩ := hb
  have hMul := fun w ha hb => rmul_any na nb a.natAbs b.natAbs w ha hb (sa.fin (by omega)) (sb.fin (by omega))
  have hM := fun v w hn => rmade_any (decide (a < 0) != decide (b < 0)) v (a.natAbs * b.natAbs) w hn
  have hz := mul_sided a b
  rw [hz] at hM
  obtain ⟨c, hc⟩ : ∃ c, c = a * b := ⟨_, rfl⟩
  rw [← hc] at hM ⊢
  clear hz hc
  generalize decide (a < 0) = s1 at *
  generalize decide (b < 0) = s2 at *
  generalize a.natAbs * b.natAbs = n at *
  generalize a.natAbs = x at *
  generalize b.natAbs = y at *
  obtain ⟨W0, hW, hT, hR, hB⟩ := box3 w 25 25 25 #[.bool s1, na] #[.bool s2, nb] #[.bool false, .slice none 0 0]
  have ha := ha.below hB
  have hb := hb.below hB
  obtain ⟨g, hg⟩ : ∃ g, g = w.heap.size := ⟨_, rfl⟩
  have hW' := Lib.hid (And.intro hW hg)
  rw [← hg] at hT hR
  clear hW hg
  go_enter Tryz.func16, Tryz.ntmps16
  go_wp2
  rw [← hW'.out.1, ← hW'.out.2]
  go_region_held3 (fun w' => w'.cell? ⟨g, 0, none⟩ = some (.bool s1) ∧ w'.cell? ⟨g, 1, none⟩ = some na ∧ w'.cell? ⟨g + 1, 0, none⟩ = some (.bool s2) ∧ w'.cell? ⟨g + 1, 1, none⟩ = some nb) (first | exact Two.cells22 (by assumption) | exact Two.cells22 (Two.far2 (by assumption) _ _))
    (first
      | (go_at_call 41; refine (hMul _ ?_ ?_).mono ?_; exact ha; exact hb; rintro x w1 ⟨v1, rfl, h1, b1⟩; have b1 := undrew b1; have hT1 := hT.below b1 hT.lt; have hR1 := hR.below b1 hR.lt; have hB1 := hB.trans (b1.mono hB.size))
      | (go_at_call 31; refine (hM _ _ ?_).mono ?_; exact h1; rintro x w2 ⟨v2, rfl, ⟨n2, rfl, h2⟩, b2⟩; obtain ⟨A2, L2, C2, rfl⟩ := h2.frm; have hT2 := hT1.below b2 hT1.lt; have hR2 := hR1.below b2 hR1.lt; have hB2 := hB1.trans (b2.mono hB1.size); have q0 := hR2.cell 0; have q1 := hR2.cell 1; have z0 := hR2.frozen 0; have z1 := hR2.frozen 1))
  obtain ⟨p1, p2, p3⟩ := put2 hR2 (.bool (decide (c < 0))) (.slice A2 L2 C2) (by simp [noU]) hB2 (by rw [hW'.out.2]; omega)
  have P := Lib.hid (And.intro (p2 _ _ h2) (And.intro p3 p1.cells2))
  clear p1 p2 p3
  go_wp2
  obtain ⟨P1, P2, P3, P4⟩ := P.out
  exact bodyPost_ret (v := .agg #[.bool (decide (c < 0)), .slice A2 L2 C2]) (by simp [results, Tryz.results16, go_sem, P3, P4]) rfl ⟨_, rfl, ⟨_, rfl, P1⟩, P2⟩
end Go.Proofs.YtooonjcpdbbniaaGreatDoor
namespace Go.Proofs.YtooonjcpdbbniaaGreatDoor

def cmpQ (a b : Rat) : Int := cmpI (a.num * b.den) (b.num * a.den)
def absQ (a : Rat) : Rat := if a.num < 0 then -a else a
theorem absQ_num (a : Rat) : (absQ a).num = a.num.natAbs := by
  unfold absQ; split
  · rw [Rat.neg_num]; omega
  · omega
theorem absQ_den (a : Rat) : (absQ a).den = a.den := by
  unfold absQ; split
  · rw [Rat.neg_den]
  · rfl
theorem mk_num (p : Int) (q : Nat) (hq : q ≠ 0) : (mkRat p q).num.natAbs = p.natAbs / Nat.gcd p.natAbs q ∧ (mkRat p q).den = q / Nat.gcd p.natAbs q ∧ decide ((mkRat p q).num < 0) = decide (p < 0) := by
  rw [Rat.num_mkRat, Rat.den_mkRat, if_neg hq, if_neg hq, Nat.gcd_comm]
  have hd := Nat.gcd_dvd_left p.natAbs q
  have hpos : 0 < Nat.gcd p.natAbs q := Nat.gcd_pos_of_pos_right _ (Nat.pos_of_ne_zero hq)
  generalize Nat.gcd p.natAbs q = g at *
  have hdi : (g : Int) ∣ p := Int.dvd_natAbs.1 (Int.natCast_dvd_natCast.2 hd)
  refine ⟨?_, rfl, ?_⟩
  · rw [Int.natAbs_ediv_of_dvd hdi]; simp
  · rw [Bool.eq_iff_iff]; simp only [decide_eq_true_eq]
    obtain ⟨c, rfl⟩ := hdi
    rw [Int.mul_ediv_cancel_left _ (by omega)]
    constructor
    · intro h; exact Int.mul_neg_of_pos_of_neg (by omega) h
    · intro h
      rcases Int.lt_or_le c 0 with h1 | h1
      · exact h1
      · have := Int.mul_nonneg (show (0 : Int) ≤ g by omega) h1; omega
/-- parts of at most so many limbs -/
def BQ (r : Rat) (k : Nat) : Prop := Sz r.num.natAbs k ∧ Sz r.den k
theorem BQ.mk {p : Int} {q k : Nat} (hp : Sz p.natAbs k) (hq : Sz q k) (h1 : 1 ≤ k) : BQ (mkRat p q) k := by
  by_cases h : q = 0
  · subst h; rw [Rat.mkRat_zero]; exact ⟨Sz.more Sz.zero (by omega), Sz.more Sz.one h1⟩
  · obtain ⟨h1, h2, _⟩ := mk_num p q h
    exact ⟨by rw [h1]; exact hp.le (Nat.div_le_self _ _), by rw [h2]; exact hq.le (Nat.div_le_self _ _)⟩
theorem Sz.imul {a b : Int} {k m : Nat} (ha : Sz a.natAbs k) (hb : Sz b.natAbs m) : Sz (a * b).natAbs (k + m) := by rw [Int.natAbs_mul]; exact ha.mul hb
theorem Sz.iadd {a b : Int} {k m : Nat} (ha : Sz a.natAbs k) (hb : Sz b.natAbs m) : Sz (a + b).natAbs (k + m + 1) := (ha.add hb).le (Int.natAbs_add_le a b)
theorem BQ.add {a b : Rat} {k m : Nat} (ha : BQ a k) (hb : BQ b m) : BQ (a + b) (2 * (k + m) + 1) := by
  rw [Rat.add_def']
  exact BQ.mk (((ha.1.imul (b := (b.den : Int)) (by simpa using hb.2)).iadd (hb.1.imul (b := (a.den : Int)) (by simpa using ha.2))).more (by omega)) ((ha.2.mul hb.2).more (by omega)) (by omega)
theorem BQ.mul {a b : Rat} {k m : Nat} (ha : BQ a k) (hb : BQ b m) : BQ (a * b) (k + m + 1) := by
  rw [Rat.mul_def']
  exact BQ.mk ((ha.1.imul hb.1).more (by omega)) ((ha.2.mul hb.2).more (by omega)) (by omega)
theorem BQ.neg {a : Rat} {k : Nat} (ha : BQ a k) : BQ (-a) k := by
  unfold BQ at *; rw [Rat.neg_num, Rat.neg_den]; simpa using ha
theorem BQ.abs {a : Rat} {k : Nat} (ha : BQ a k) : BQ (absQ a) k := by
  unfold BQ at *; rw [absQ_num, absQ_den]; simpa using ha
theorem BQ.more {a : Rat} {k m : Nat} (ha : BQ a k) (h : k ≤ m) : BQ a m := ⟨ha.1.more h, ha.2.more h⟩
theorem BQ.int {n : Int} (h : n.natAbs < W64) : BQ (n : Rat) 1 := ⟨Sz.u64 (by simpa using h), by simpa using Sz.one⟩

/-- a quotient, to the nearest, of two as near the even one -/
def nearZ (A : Int) (D : Nat) : Int := if (D : Int) < 2 * (A % D) ∨ (2 * (A % D) = D ∧ A / D % 2 = 1) then A / D + 1 else A / D
theorem nearZ_scale (A : Int) (D c : Nat) (hc : 0 < c) : nearZ (A * c) (D * c) = nearZ A D := by
  unfold nearZ
  have e1 : A * (c : Int) / ((D * c : Nat) : Int) = A / D := by rw [Int.natCast_mul]; exact Int.mul_ediv_mul_of_pos_left A D (by omega)
  have e2 : A * (c : Int) % ((D * c : Nat) : Int) = A % D * c := by rw [Int.natCast_mul, Int.mul_comm A, Int.mul_comm (D : Int), Int.mul_emod_mul_of_pos _ _ (by omega), Int.mul_comm]
  rw [e1, e2]
  generalize A % (D : Int) = r
  generalize A / (D : Int) = q
  have i1 : ((D * c : Nat) : Int) < 2 * (r * c) ↔ (D : Int) < 2 * r := by
    rw [Int.natCast_mul, show 2 * (r * (c : Int)) = (2 * r) * c from by rw [Int.mul_assoc]]
    exact Int.mul_lt_mul_right (by omega)
  have i2 : 2 * (r * (c : Int)) = ((D * c : Nat) : Int) ↔ 2 * r = D := by
    rw [Int.natCast_mul, show 2 * (r * (c : Int)) = (2 * r) * c from by rw [Int.mul_assoc]]
    constructor
    · intro h; exact Int.eq_of_mul_eq_mul_right (by omega) h
    · intro h; rw [h]
  simp only [i1, i2]
theorem nearZ_same {A A' : Int} {D D' : Nat} (h : A * D' = A' * D) (hD : 0 < D) (hD' : 0 < D') : nearZ A D = nearZ A' D' := by
  rw [← nearZ_scale A D D' hD', ← nearZ_scale A' D' D hD, h, Nat.mul_comm D D']
theorem nearZ_nat (n D : Nat) : nearZ n D = (rne n D : Nat) := by
  unfold nearZ rne
  have e1 : (n : Int) / (D : Int) = ((n / D : Nat) : Int) := by simp
  have e2 : (n : Int) % (D : Int) = ((n % D : Nat) : Int) := by simp
  rw [e1, e2]
  by_cases h : D < 2 * (n % D) ∨ (2 * (n % D) = D ∧ n / D % 2 = 1)
  · rw [if_pos h, if_pos (by omega)]; omega
  · rw [if_neg h, if_neg (by omega)]
theorem nearZ_neg (n D : Nat) (hD : 0 < D) : nearZ (-(n : Int)) D = -(rne n D : Nat) := by
  unfold nearZ rne
  have hr := Nat.mod_lt n hD
  have hn := Nat.div_add_mod n D
  generalize n / D = q at *
  generalize n % D = r at *
  by_cases h0 : r = 0
  · subst h0
    have e0 : -(n : Int) = (D : Int) * (-(q : Int)) := by rw [← hn]; simp [Int.mul_neg]
    have e1 : -(n : Int) / (D : Int) = -(q : Int) := by rw [e0, Int.mul_ediv_cancel_left _ (by omega)]
    have e2 : -(n : Int) % (D : Int) = 0 := by rw [e0, Int.mul_emod_right]
    rw [e1, e2, if_neg (by omega), if_neg (by omega)]
  · have e0 : -(n : Int) = ((D - r : Nat) : Int) + (D : Int) * (-(q : Int) - 1) := by
      rw [← hn, Int.mul_sub, Int.mul_neg]; push_cast [Nat.le_of_lt hr]; rw [Int.mul_one]; omega
    have e1 : -(n : Int) / (D : Int) = -(q : Int) - 1 := by
      rw [e0, Int.add_mul_ediv_left _ _ (by omega), Int.ediv_eq_zero_of_lt (by omega) (by omega), Int.zero_add]
    have e2 : -(n : Int) % (D : Int) = ((D - r : Nat) : Int) := by
      rw [e0, Int.add_mul_emod_self_left, Int.emod_eq_of_lt (by omega) (by omega)]
    rw [e1, e2]
    by_cases h : D < 2 * r ∨ (2 * r = D ∧ q % 2 = 1)
    · rw [if_pos h, if_neg (by omega)]; omega
    · rw [if_neg h, if_pos (by omega)]; omega
theorem nearZ_sided (s : Bool) (n D : Nat) (hD : 0 < D) : nearZ (sided s n) D = sided s (rne n D) := by
  cases s
  · exact nearZ_nat n D
  · exact nearZ_neg n D hD
/-- the nearest mantissa of a rational -/
def nearQ (r : Rat) (k : Nat) : Int := nearZ (r.num * 2 ^ k) r.den
theorem nearQ_mk (p : Int) (q k : Nat) (hq : 0 < q) : nearQ (mkRat p q) k = nearZ (p * 2 ^ k) q := by
  unfold nearQ
  apply nearZ_same _ (Rat.den_pos _) hq
  have h : (mkRat p q).num * q = p * (mkRat p q).den := by
    have := (Rat.mkRat_eq_iff (n₁ := (mkRat p q).num) (n₂ := p) (Rat.den_nz (mkRat p q)) (by omega : q ≠ 0)).1 (by rw [Rat.mkRat_self])
    exact this
  calc (mkRat p q).num * 2 ^ k * q = (mkRat p q).num * q * 2 ^ k := by rw [Int.mul_right_comm]
    _ = p * 2 ^ k * (mkRat p q).den := by rw [h, Int.mul_right_comm]
theorem near_mul (a b : Int) (f : Nat) : nearQ (mkRat a (2 ^ f) * mkRat b (2 ^ f)) f = mulZ a b f := by
  rw [Rat.mkRat_mul_mkRat, nearQ_mk _ _ _ (Nat.mul_pos (Nat.pow_pos (by omega)) (Nat.pow_pos (by omega)))]
  have e := nearZ_scale (a * b) (2 ^ f) (2 ^ f) (Nat.pow_pos (by omega))
  rw [show a * b * 2 ^ f = a * b * ((2 ^ f : Nat) : Int) from by simp, e]
  rw [← mul_sided a b, nearZ_sided _ _ _ (Nat.pow_pos (by omega))]; rfl
theorem near_int (n : Int) : nearQ (n : Rat) 0 = n := by
  unfold nearQ nearZ; simp
end Go.Proofs.YtooonjcpdbbniaaGreatDoor
