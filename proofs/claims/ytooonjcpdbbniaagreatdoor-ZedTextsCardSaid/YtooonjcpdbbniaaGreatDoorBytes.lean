/- Slices of bytes that read as lists. No conditions beyond those of each lemma. -/
import Derived.Test.YtooonjcpdbbniaaGreatDoorApp
import Derived.Test.YtooonjcpdbbniaaGreatDoorZedW
import Derived.Laws.BytesArg
import Derived.Lib.Bytes
import Derived.Test.YtooonjcpdbbniaaGreatDoorBase
namespace Go.Proofs.YtooonjcpdbbniaaGreatDoor
open Go.RowKit
/-- bytes as cells -/
def ys (l : List Nat) : List Value := l.map fun (n : Nat) => Value.int .u8 (n : Int)
def yat (l : List Nat) (k : Nat) : Nat := l[k]?.getD 0
def By (l : List Nat) : Prop := ∀ x ∈ l, x < 256
theorem ys_len (l : List Nat) : (ys l).length = l.length := by simp [ys]
theorem ys_at (l : List Nat) (j : Nat) (h : j < l.length) : (ys l)[j]? = some (.int .u8 (yat l j : Nat)) := by simp [ys, yat, h]
theorem ys_snoc (l : List Nat) (x : Nat) : ys (l ++ [x]) = ys l ++ [.int .u8 (x : Int)] := by simp [ys]
theorem ys_one (l : List Nat) : ∀ u ∈ ys l, u.oneCell' = true := by
  intro u hu; obtain ⟨n, _, rfl⟩ := List.mem_map.1 hu; rfl
theorem yat_snoc_take (l : List Nat) (k : Nat) (h : k < l.length) : l.take (k + 1) = l.take k ++ [yat l k] := by
  rw [List.take_succ_eq_append_getElem h]; simp [yat, h]
theorem yat_mem {l : List Nat} {k : Nat} (h : k < l.length) : yat l k ∈ l := by
  unfold yat; rw [List.getElem?_eq_getElem h]; exact List.getElem_mem h
theorem By.at_ {l : List Nat} (h : By l) (k : Nat) : yat l k < 256 := by
  by_cases hk : k < l.length
  · exact h _ (yat_mem hk)
  · unfold yat; rw [List.getElem?_eq_none (by omega)]; simp
theorem By.nil : By [] := by simp [By]
/-- the value is a slice that reads as these bytes -/
def IsY (w : World) (v : Value) (l : List Nat) : Prop :=
  ∃ (A : Option Addr) (c : Nat), v = .slice A l.length c ∧ l.length ≤ c ∧ c ≤ 9223372036854775807 ∧ By l ∧ Reads w w.heap.size 1 A l.length (ys l)
section
variable {w w' : World} {v : Value} {l : List Nat}
theorem IsY.below (h : IsY w v l) (hb : Below w.heap.size w w') : IsY w' v l := by
  obtain ⟨A, c, e, h1, h2, h3, h4⟩ := h
  exact ⟨A, c, e, h1, h2, h3, (h4.below hb).more hb.size⟩
theorem IsY.nil (w : World) : IsY w (.slice none 0 0) [] := ⟨none, 0, rfl, by simp, by omega, By.nil, Reads.none_⟩
theorem y_cell {A : Option Addr} {k m B : Nat} (h : Reads w B 1 A m (ys l)) (hk : k < m) : ∃ ad, A = some ad ∧ ad.block < B ∧ w.cell? (ad.add k) = some (.int .u8 (yat l k : Nat)) := by
  obtain ⟨ad, u, rfl, hb, hx, hc⟩ := h.at_ hk
  have hl : k < l.length := by have := h.1; rw [ys_len] at this; omega
  rw [ys_at _ _ hl] at hx
  obtain rfl := Option.some.inj hx
  exact ⟨ad, rfl, hb, hc⟩
theorem IsY.form (h : IsY w v l) : ∃ A C, v = .slice A l.length C ∧ l.length ≤ C ∧ C ≤ 9223372036854775807 := by obtain ⟨A, C, e, h1, h2, _⟩ := h; exact ⟨A, C, e, h1, h2⟩
theorem IsY.by_ (h : IsY w v l) : By l := by obtain ⟨_, _, _, _, _, h, _⟩ := h; exact h
theorem IsY.at_ {A : Option Addr} {n C k : Nat} (h : IsY w (.slice A n C) l) (hk : k < l.length) : ∃ ad, A = some ad ∧ w.cell? (ad.add k) = some (.int .u8 (yat l k : Nat)) := by
  obtain ⟨A', c', e, _, _, _, r⟩ := h
  injection e with e1 e2 e3
  subst e1 e2 e3
  obtain ⟨ad, e, _, h⟩ := y_cell r hk
  exact ⟨ad, e, h⟩
def noY : Value → Bool
  | .int .u8 _ => false
  | _ => true
theorem IsY.keepBlk {R : Nat} {t : TypeId} {cs : Array Value} (h : IsY w v l) (hR : Blk w R t cs) (hcs : cs.all noY = true) (hw : ∀ k, k ≠ R → w'.heap[k]? = w.heap[k]?) (hsz : w.heap.size ≤ w'.heap.size) : IsY w' v l := by
  obtain ⟨A, c, rfl, h1, h2, h3, h4⟩ := h
  refine ⟨A, c, rfl, h1, h2, h3, h4.1, fun hn => ?_⟩
  obtain ⟨ad, rfl, hb, hc⟩ := h4.2 hn
  refine ⟨ad, rfl, by omega, fun j y hj => ?_⟩
  have hne : ad.block ≠ R := by
    intro e
    have hl := h4.1
    have h0 := hc 0 _ (ys_at l 0 (by rw [ys_len] at hl; omega))
    obtain ⟨b, off, sp⟩ := ad
    dsimp only at e; subst e
    rw [Addr.add, if_pos rfl] at h0
    have hsp : sp = none := World.cell?_spot h0
    subst hsp
    rw [hR.cell] at h0
    have := Array.all_eq_true_iff_forall_mem.1 hcs _ (Array.mem_of_getElem? h0)
    simp [noY] at this
  rw [← hc j y hj]
  exact World.cell?_of_block (by rw [block_of_add]; exact hw _ hne)
theorem strOfNums_toBytes' (xs : List Int) : (strOfNums xs).data.toList = Lib.bytesOf xs := rfl
/-- the bytes as a string -/
def strY (l : List Nat) : ByteArray := strOfNums (l.map fun (n : Nat) => (n : Int))
theorem strY_inj {a b : List Nat} (ha : By a) (hb : By b) (h : strY a = strY b) : a = b := by
  have h1 : (strY a).data.toList = (strY b).data.toList := by rw [h]
  unfold strY at h1
  rw [strOfNums_data, strOfNums_data, List.map_map, List.map_map] at h1
  clear h
  induction a generalizing b with
  | nil => cases b with
    | nil => rfl
    | cons y r => simp at h1
  | cons x s ih => cases b with
    | nil => simp at h1
    | cons y r =>
      simp only [List.map_cons, List.cons.injEq, Function.comp] at h1
      have hx := ha x List.mem_cons_self
      have hy := hb y List.mem_cons_self
      have e : x = y := by
        have := congrArg UInt8.toNat h1.1
        simp at this
        omega
      rw [e, ih (fun z hz => ha z (List.mem_cons_of_mem _ hz)) (fun z hz => hb z (List.mem_cons_of_mem _ hz)) h1.2]
theorem strY_list {a b : List Nat} (h : (strY a).toList = (strY b).toList) : strY a = strY b := by
  unfold strY at *
  rw [Lib.strOfNums_toList, Lib.strOfNums_toList, ← strOfNums_toBytes', ← strOfNums_toBytes'] at h
  generalize strOfNums _ = x at *
  generalize strOfNums _ = y at *
  cases x; cases y
  simp only [ByteArray.mk.injEq]
  exact Array.toList_inj.1 h
theorem IsY.str {t e s : TypeId} {P : Program} (h : IsY w v l) (ht : P.underlying t = some (.slice e)) (he : P.underlying e = some (.int .u8)) (hs : P.underlying s = some .string) :
    (convert t s v).run P w = .ok (.string (strY l)) w := by
  obtain ⟨A, c, rfl, h1, h2, h3, h4⟩ := h
  rcases A with _ | ad
  · have h0 : l.length = 0 := by
      rcases Nat.eq_zero_or_pos l.length with h | h
      · exact h
      · obtain ⟨ad, e, _⟩ := h4.2 h; cases e
    have hl : l = [] := List.eq_nil_of_length_eq_zero h0
    subst hl
    exact run_convert_bytes_nil w t e ht he 0 c s hs
  · rcases Nat.eq_zero_or_pos l.length with h0 | h0
    · have hl : l = [] := List.eq_nil_of_length_eq_zero h0
      subst hl
      rw [run_convert_bytes_string w t s e _ _ c ht he hs]
      simp [Conv.bytesToString, strY, strOfNums]
      rfl
    · obtain ⟨ad', e0, hb, hc⟩ := h4.2 h0
      cases e0
      obtain ⟨b, off, sp⟩ := ad
      have hspot : sp = none := by
        have := hc 0 _ (ys_at l 0 h0)
        rw [Addr.add, if_pos rfl] at this
        exact World.cell?_spot this
      subst hspot
      refine run_convert_bytes_arg w t e ht he b off l.length c (l.map fun (n : Nat) => (n : Int)) (by simp) (fun i hi => ?_) s hs
      have := hc i _ (ys_at l i hi)
      have e2 : Addr.add ⟨b, off, none⟩ i = ⟨b, off + i, none⟩ := by unfold Addr.add; split <;> simp_all
      rw [e2] at this
      rw [this]
      simp [yat, List.getD, hi]
theorem IsY.fresh (w : World) (t : TypeId) (l : List Nat) (hb : By l) (hl : l.length ≤ 9223372036854775807) : IsY (w.alloc (.cells (ys l).toArray t)) (.slice (some ⟨w.heap.size, 0, none⟩) l.length l.length) l :=
  ⟨_, _, rfl, Nat.le_refl _, hl, hb, by simpa using Reads.fresh w t (ys l) l.length (ys_len l).symm⟩
end
end Go.Proofs.YtooonjcpdbbniaaGreatDoor
namespace Go.Proofs.YtooonjcpdbbniaaGreatDoor
open Go.RowKit
theorem take_not {α : Type} [Inhabited α] {l : List α} {k : Nat} {x y : α} (h : x ∉ l.take k) (e : l.take (k + 1) = l.take k ++ [y]) (hne : x ≠ y) : x ∉ l.take (k + 1) := by
  rw [e, List.mem_append, List.mem_singleton]
  rintro (h1 | h1)
  · exact h h1
  · exact hne h1
end Go.Proofs.YtooonjcpdbbniaaGreatDoor
