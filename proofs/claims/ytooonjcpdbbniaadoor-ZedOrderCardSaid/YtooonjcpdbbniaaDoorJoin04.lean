/- Two values made, and two boxes, in any order: what the regions of layer 4's laws share. -/
import Derived.Test.YtooonjcpdbbniaaDoorAid04
import Derived.Deep.RegionHeld3
namespace Go.Proofs.YtooonjcpdbbniaaDoor
open Go.RowKit Go.Lib Go.Shelf
/-- a region that is cut off from what follows: two boxes and two values are made in it -/
theorem wp_region_join {P : Program} {id : Nat} {ops : Array Oper} {b : Bool} {Q : Exit → Act → World → Prop} {a : Act} {w : World} (F : Nat → Nat → Option Addr → Nat → Nat → Option Addr → Nat → Nat → Act) (R : World → Nat → Nat → Option Addr → Nat → Nat → Option Addr → Nat → Nat → Prop)
    (h1 : (Code.region id ops b).wp P (OnlyN fun a' w' => ∃ (n1 n2 : Nat) (A1 : Option Addr) (L1 C1 : Nat) (A2 : Option Addr) (L2 C2 : Nat), a' = F n1 n2 A1 L1 C1 A2 L2 C2 ∧ R w' n1 n2 A1 L1 C1 A2 L2 C2) a w)
    (h2 : ∀ w' n1 n2 A1 L1 C1 A2 L2 C2, R w' n1 n2 A1 L1 C1 A2 L2 C2 → Q .normal (F n1 n2 A1 L1 C1 A2 L2 C2) w') : (Code.region id ops b).wp P Q a w :=
  Code.wp_mono (fun e a w h => by
    cases e
    case normal => obtain ⟨n1, n2, A1, L1, C1, A2, L2, C2, rfl, h⟩ := (h : ∃ (n1 n2 : Nat) (A1 : Option Addr) (L1 C1 : Nat) (A2 : Option Addr) (L2 C2 : Nat), _); exact h2 _ _ _ _ _ _ _ _ _ h
    all_goals exact (h : False).elim) h1
/-- a box of an integer filled -/
theorem put_zed {w : World} {R : Nat} {t : TypeId} {a b : Value} (hR : Blk w R t #[a, b]) (x y : Value) (hcs : (#[a, b] : Array Value).all noU = true) :
    ∃ W, W = (w.setCell ⟨R, 0, none⟩ x).setCell ⟨R, 1, none⟩ y ∧ Blk W R t #[x, y] ∧ (∀ v z, IsZ w v z → IsZ W v z) ∧ (∀ g t' cs, Blk w g t' cs → g ≠ R → Blk W g t' cs) ∧ (∀ (B : Nat) (w0 : World), B ≤ R → Below B w0 w → Below B w0 W) := by
  refine ⟨_, rfl, ?_, fun v z h => ?_, fun g t' cs h hne => (h.far (p := ⟨R, 0, none⟩) hne x).far (p := ⟨R, 1, none⟩) hne y, fun B w0 hBR hB => (hB.setCell (p := ⟨R, 0, none⟩) hBR x).setCell (p := ⟨R, 1, none⟩) hBR y⟩
  · have := (hR.set_ 0 x).set_ 1 y
    simpa using this
  · obtain ⟨nv, e, hn⟩ := h
    exact ⟨nv, e, hn.keepBlk hR hcs (fun k hk => (Below.heap_setCell _ ⟨R, 1, none⟩ y k hk).trans (Below.heap_setCell w ⟨R, 0, none⟩ x k hk)) (by simp [World.setCell])⟩
theorem as_form {P : Program} {f : FuncId} {args : Array Value} {w : World} {z : Int} {b : Bool} (hb : decide (z < 0) = b) (h : Calls P f args w fun e w' => ∃ v, e = .returned v ∧ IsZ w' v z ∧ Below w.heap.size w w') :
    Calls P f args w fun e w' => ∃ A L C, e = .returned (.agg #[.bool b, .slice A L C]) ∧ IsZ w' (.agg #[.bool b, .slice A L C]) z ∧ Below w.heap.size w w' :=
  h.mono fun e w' ⟨v, he, h1, h2⟩ => by
    obtain ⟨A, L, C, rfl, _⟩ := h1.frm
    subst hb he
    exact ⟨A, L, C, rfl, h1, h2⟩
theorem szi_add {a b : Int} {k m : Nat} (ha : Sz a.natAbs k) (hb : Sz b.natAbs m) : Sz (a + b).natAbs (k + m + 1) := by
  have h1 : (a + b).natAbs ≤ a.natAbs + b.natAbs := Int.natAbs_add_le a b
  exact Nat.le_trans (limbs_len_mono h1) (Sz.add ha hb)
theorem szi_mul {a b : Int} {k m : Nat} (ha : Sz a.natAbs k) (hb : Sz b.natAbs m) : Sz (a * b).natAbs (k + m) := by
  unfold Sz at *
  rw [Int.natAbs_mul]
  exact Nat.le_trans (limbs_len_mul _ _) (Nat.add_le_add ha hb)
theorem szi_neg {a : Int} {k : Nat} (ha : Sz a.natAbs k) : Sz (-a).natAbs k := by rw [Int.natAbs_neg]; exact ha
theorem szi_le {a : Int} {k m : Nat} (ha : Sz a.natAbs k) (h : k ≤ m) : Sz a.natAbs m := Nat.le_trans ha h
theorem same_of {x y : Int} (h : x = y) : decide (x = y) = true := decide_eq_true h
end Go.Proofs.YtooonjcpdbbniaaDoor
