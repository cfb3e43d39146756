/- slices.Sort at int64, out of the shelf's contract. No condition beyond the length. -/
import Derived.Shelf.SortG.Plain
import Derived.Test.YtochabikpaoalaaChecked
import Derived.Test.YtochabikpaoalaaBook0
import Derived.RangeFuncBox
import Derived.RangeFuncWrites
import Derived.Maps.AppendAt
import Derived.Deep.DeepMust
import Derived.Outline
namespace Go.Proofs
open Go.Shelf
def Try.laysSort_ren : Go.Shelf.Ren := ⟨fun | 53 => 37 | 64 => 47 | 63 => 46 | 78 => 61 | 79 => 62 | 70 => 52 | 71 => 53 | 72 => 54 | 73 => 55 | 74 => 56 | 75 => 57 | 59 => 58 | 76 => 59 | 77 => 60 | 88 => 69 | 89 => 70 | 90 => 71 | 91 => 72 | 92 => 73 | 68 => 74 | 96 => 78 | n => n, fun | 22 => 24 | 23 => 2 | 3 => 3 | 51 => 89 | 0 => 0 | 67 => 105 | 69 => 92 | 4 => 4 | 61 => 97 | 60 => 96 | 44 => 102 | 5 => 5 | 9 => 9 | 75 => 116 | 79 => 120 | 83 => 124 | 84 => 125 | n => n, fun | n => n⟩
theorem Try.laysSort : Go.Proofs.SlLaysN.n53 Try.prog Try.laysSort_ren := {
  mixed := by kernel_rfl
  f53 := ⟨Try.f37.name, of_decide_eq_true (by kernel_rfl), Try.func37.trans (congrArg some (by kernel_rfl))⟩
  f59 := ⟨Try.f58.name, of_decide_eq_true (by kernel_rfl), Try.func58.trans (congrArg some (by kernel_rfl))⟩
  f63 := ⟨Try.f46.name, of_decide_eq_true (by kernel_rfl), Try.func46.trans (congrArg some (by kernel_rfl))⟩
  f64 := Try.func47.trans (congrArg some (by kernel_rfl))
  f68 := ⟨Try.f74.name, of_decide_eq_true (by kernel_rfl), Try.func74.trans (congrArg some (by kernel_rfl))⟩
  f70 := ⟨Try.f52.name, of_decide_eq_true (by kernel_rfl), Try.func52.trans (congrArg some (by kernel_rfl))⟩
  f71 := ⟨Try.f53.name, of_decide_eq_true (by kernel_rfl), Try.func53.trans (congrArg some (by kernel_rfl))⟩
  f72 := ⟨Try.f54.name, of_decide_eq_true (by kernel_rfl), Try.func54.trans (congrArg some (by kernel_rfl))⟩
  f73 := ⟨Try.f55.name, of_decide_eq_true (by kernel_rfl), Try.func55.trans (congrArg some (by kernel_rfl))⟩
  f74 := ⟨Try.f56.name, of_decide_eq_true (by kernel_rfl), Try.func56.trans (congrArg some (by kernel_rfl))⟩
  f75 := ⟨Try.f57.name, of_decide_eq_true (by kernel_rfl), Try.func57.trans (congrArg some (by kernel_rfl))⟩
  f76 := ⟨Try.f59.name, of_decide_eq_true (by kernel_rfl), Try.func59.trans (congrArg some (by kernel_rfl))⟩
  f77 := ⟨Try.f60.name, of_decide_eq_true (by kernel_rfl), Try.func60.trans (congrArg some (by kernel_rfl))⟩
  f78 := Try.func61.trans (congrArg some (by kernel_rfl))
  f79 := Try.func62.trans (congrArg some (by kernel_rfl))
  f88 := ⟨Try.f69.name, of_decide_eq_true (by kernel_rfl), Try.func69.trans (congrArg some (by kernel_rfl))⟩
  f89 := Try.func70.trans (congrArg some (by kernel_rfl))
  f90 := Try.func71.trans (congrArg some (by kernel_rfl))
  f91 := ⟨Try.f72.name, of_decide_eq_true (by kernel_rfl), Try.func72.trans (congrArg some (by kernel_rfl))⟩
  f92 := ⟨Try.f73.name, of_decide_eq_true (by kernel_rfl), Try.func73.trans (congrArg some (by kernel_rfl))⟩
  f96 := ⟨Try.f78.name, of_decide_eq_true (by kernel_rfl), Try.func78.trans (congrArg some (by kernel_rfl))⟩
  t0 := Try.underlying0
  a0 := Try.isAgg0
  z0 := Try.sizeOf0
  v0 := Try.zeroValue0
  t3 := Try.underlying3
  a3 := Try.isAgg3
  z3 := Try.sizeOf3
  v3 := Try.zeroValue3
  t4 := Try.underlying4
  a4 := Try.isAgg4
  z4 := Try.sizeOf4
  v4 := Try.zeroValue4
  t5 := Try.underlying5
  a5 := Try.isAgg5
  z5 := Try.sizeOf5
  v5 := Try.zeroValue5
  t9 := Try.underlying9
  a9 := Try.isAgg9
  z9 := Try.sizeOf9
  v9 := Try.zeroValue9
  t22 := Try.underlying24
  a22 := Try.isAgg24
  z22 := Try.sizeOf24
  v22 := Try.zeroValue24
  t23 := Try.underlying2
  a23 := Try.isAgg2
  z23 := Try.sizeOf2
  v23 := Try.zeroValue2
  t44 := Try.underlying102
  a44 := Try.isAgg102
  z44 := Try.sizeOf102
  v44 := Try.zeroValue102
  t51 := Try.underlying89
  a51 := Try.isAgg89
  z51 := Try.sizeOf89
  v51 := Try.zeroValue89
  t60 := Try.underlying96
  a60 := Try.isAgg96
  z60 := Try.sizeOf96
  v60 := Try.zeroValue96
  t61 := Try.underlying97
  a61 := Try.isAgg97
  z61 := Try.sizeOf97
  v61 := Try.zeroValue97
  t67 := Try.underlying105
  a67 := Try.isAgg105
  z67 := Try.sizeOf105
  v67 := Try.zeroValue105
  t69 := Try.underlying92
  a69 := Try.isAgg92
  z69 := Try.sizeOf92
  v69 := Try.zeroValue92
  t75 := Try.underlying116
  a75 := Try.isAgg116
  z75 := Try.sizeOf116
  v75 := Try.zeroValue116
  t79 := Try.underlying120
  a79 := Try.isAgg120
  z79 := Try.sizeOf120
  v79 := Try.zeroValue120
  t83 := Try.underlying124
  a83 := Try.isAgg124
  z83 := Try.sizeOf124
  v83 := Try.zeroValue124
  t84 := Try.underlying125
  a84 := Try.isAgg125
  z84 := Try.sizeOf125
  v84 := Try.zeroValue125 }

end Go.Proofs
namespace Go.Proofs.Ytochabikpaoalaa
open Go.RowKit Go.Shelf Go.Lib Go.Sort
theorem sort_any (blk off cap : Nat) (zs : List Int) (w : World) (hH : Holds (Value.int .i64) w blk off zs.toArray) (hblk : blk < w.heap.size) (hsz : zs.length < 4611686018427387904) :
    Calls Try.prog 37 #[.slice (some ⟨blk, off, none⟩) zs.length cap] w fun e w' =>
      e = .returned (.tuple #[]) ∧ ∃ n os, w' = grow (putRow (Value.int .i64) (Sort.ahead w n) blk off (zs.mergeSort fun x y => decide (x ≤ y)).toArray) os :=
  AnyG.slices_Sort_int Try.laysSort blk off cap zs w hH hblk hsz
end Go.Proofs.Ytochabikpaoalaa
namespace Go.Proofs.Ytochabikpaoalaa
open Go.RowKit Go.Shelf
attribute [local go_sem] Oper.semAt_some

def sgn (k : Int) : Bool := k == 0 || k == 2
def den (k : Int) : Int := if k = 0 ∨ k = 1 then 2560000000 else if k = 2 ∨ k = 3 then 255 else 0
theorem kind_cases (k : Int) : k = 0 ∨ k = 1 ∨ k = 2 ∨ k = 3 ∨ ((k == 0) = false ∧ (k == 1) = false ∧ (k == 2) = false ∧ (k == 3) = false) := by
  simp only [beq_eq_false_iff_ne]; omega
set_option maxHeartbeats 400000 in
theorem signed_any (k : Int) (w : World) : Calls Try.prog 28 #[.int .i64 k] w fun e w' => e = .returned (.bool (sgn k)) ∧ w = w' := by
  rcases kind_cases k with rfl | rfl | rfl | rfl | ⟨h0, h1, h2, h3⟩
  all_goals
    go_enter Try.func28, Try.ntmps28
    go_wp2
    go_ret
  all_goals first | exact ⟨rfl, rfl⟩ | exact ⟨ret_bool (by simp [sgn, h0, h2]), rfl⟩
set_option maxHeartbeats 400000 in
theorem den_any (k : Int) (w : World) : Calls Try.prog 41 #[.int .i64 k] w fun e w' => e = .returned (.int .i64 (den k)) ∧ w = w' := by
  rcases kind_cases k with rfl | rfl | rfl | rfl | ⟨h0, h1, h2, h3⟩
  all_goals
    go_enter Try.func41, Try.ntmps41
    go_wp2
    go_ret
  all_goals first | exact ⟨rfl, rfl⟩ | exact ⟨ret_int (by simp at h0 h1 h2 h3; simp [den, h0, h1, h2, h3]), rfl⟩
set_option maxHeartbeats 400000 in
theorem decade_any (b : Bool) (w : World) : Calls Try.prog 36 #[.bool b] w fun e w' => e = .returned (.func (.func 45) #[] #[.pointer (some ⟨w.heap.size, 0, none⟩)]) ∧ w' = w.alloc (.cells #[.bool b] 4) := by
  have hmf : ∀ (fn : Fn) (first cap : Array Value) (w : World), (Instr.makeFunc fn first cap).run Try.prog w = .ok (.func fn first cap) w := fun _ _ _ _ => rfl
  go_enter Try.func36, Try.ntmps36
  go_wp2
  go_ret
  exact ⟨rfl, rfl⟩
end Go.Proofs.Ytochabikpaoalaa
namespace Go.Proofs.Ytochabikpaoalaa
open Go.RowKit Go.Shelf Go.Sort

theorem sort_own (base : Nat) (v : Value) (l : List Int) (w : World) (hown : w.ownsRow base 2 1 v l.length (is l)) (h0 : 0 < l.length) (hlen : l.length ≤ 1000000) :
    Calls Try.prog 37 #[v] w fun e w' => e = .returned (.tuple #[]) ∧ IsI w' v (l.mergeSort fun x y => decide (x ≤ y)) ∧ w.grownBy w' v.ownBlock := by
  have hown0 := hown
  rcases hown.2 with ⟨_, h⟩ | ⟨g, cap, cur, rfl, hb, hh, hn, hcap, hs, ht⟩
  · omega
  · have hg : g < w.heap.size := (Array.getElem?_eq_some_iff.1 hh).1
    have hH : Holds (Value.int .i64) w g 0 l.toArray := fun j hj => by
      have hj' : j < l.length := by simpa using hj
      refine ⟨?_, hown0.frozenAt _⟩
      rw [Nat.zero_add, hown0.cellAt j (by omega), is_at l j hj']
      simp [iat, hj']
    refine (sort_any g 0 cap l w hH hg (by omega)).mono ?_
    rintro e w' ⟨rfl, n, os, rfl⟩
    have hsz : (putRow (Value.int .i64) (Sort.ahead w n) g 0 (l.mergeSort fun x y => decide (x ≤ y)).toArray).heap.size = w.heap.size := by
      simp [putRow, mapBlock, Sort.ahead]
    have hms : (l.mergeSort fun x y => decide (x ≤ y)).length = l.length := List.length_mergeSort _
    refine ⟨rfl, ⟨some ⟨g, 0, none⟩, cap, by rw [hms], by omega, hcap, by rw [is_len]; omega, fun _ => ⟨_, rfl, ?_, fun j u hu => ?_⟩⟩, ?_⟩
    · show g < (grow _ os).heap.size
      simp only [grow, Array.size_append]; omega
    · have hj : j < l.length := by
        rcases Nat.lt_or_ge j l.length with h' | h'
        · exact h'
        · rw [List.getElem?_eq_none (by rw [is_len]; omega)] at hu; cases hu
      have e : Addr.add ⟨g, 0, none⟩ j = ⟨g, j, none⟩ := by unfold Addr.add; split <;> simp_all
      rw [e, cell?_grow _ _ _ (by rw [hsz]; exact hg)]
      have hc := cell?_putRow (Value.int .i64) (Sort.ahead w n) g 0 l.toArray (l.mergeSort fun x y => decide (x ≤ y)).toArray (holds_ahead _ w n g 0 _ hH) (by simp) j (by simpa using hj)
      rw [Nat.zero_add] at hc
      rw [hc, ← hu, is_at _ j (by omega)]
      simp [iat, hms, hj]
    · refine ⟨rfl, rfl, rfl, ?_, fun i hi hne => ?_⟩
      · show w.heap.size ≤ (grow _ os).heap.size
        simp only [grow, Array.size_append]; omega
      · have hig : i ≠ g := fun e => hne (by rw [e]; rfl)
        rw [heap_grow_old _ _ (by rw [hsz]; exact hi)]
        simp [putRow, mapBlock, Sort.ahead, Array.getElem?_modify, Ne.symm hig]
end Go.Proofs.Ytochabikpaoalaa
namespace Go.Proofs.Ytochabikpaoalaa
open Go.RowKit Go.Shelf

theorem bx_far {W : World} {C B : Nat} {t : TypeId} {u x : Value} (h : Boxed W C t u) (hne : C ≠ B) : Boxed (W.setCell ⟨B, 0, none⟩ x) C t u := (Below.heap_setCell W ⟨B, 0, none⟩ x C hne).trans h
theorem bx_low {W w1 : World} {b₁ C : Nat} {t : TypeId} {u : Value} (h : Boxed W C t u) (hb : Below b₁ W w1) (hC : C < b₁) : Boxed w1 C t u := (hb.block C hC).trans h
theorem bx_kept {W W' : World} {row : Option Nat} {B : Nat} {t : TypeId} {v : Value} (h : Boxed W B t v) (hg : W.grownBy W' row) (hr : ∀ r, row = some r → ∃ o : Obj, W.heap[r]? = some o ∧ o.isCells = false) : Boxed W' B t v :=
  h.kept hg (fun e => by obtain ⟨o, ho, hc⟩ := hr B e.symm; rw [show W.heap[B]? = _ from h] at ho; cases ho; cases hc)
/-- behind an append onto a row that lies from b₁ on -/
theorem bx_app {W w1 : World} {b₁ : Nat} {e : TypeId} {v : Value} {k : Nat} {xs : List Value} {tmp : Obj} (hrow : W.ownsRow b₁ e 1 v k xs) (hb₁ : b₁ ≤ W.heap.size) (hgrow : (W.alloc tmp).grownBy w1 v.ownBlock) :
    Below b₁ W w1 ∧ KeepsOthers W w1 := by
  refine ⟨((Below.refl b₁ W).alloc hb₁ tmp).grown hgrow (by simp; omega) fun j ej => (hrow.lt j ej).1, (KeepsOthers.alloc W tmp).trans (KeepsOthers.of_grownBy hgrow fun j o ej hj => ?_)⟩
  rcases (hrow.alloc tmp).2 with ⟨rfl, _⟩ | ⟨g, cap, cur, rfl, _, hgb, _⟩
  · simp [Value.ownBlock] at ej
  · obtain rfl : g = j := by simpa [Value.ownBlock] using ej
    rw [hgb] at hj; cases hj; rfl

set_option maxHeartbeats 400000 in
theorem book_none (k : Int) (w : World) (h0 : (k == 0) = false) (h1 : (k == 1) = false) (h2 : (k == 2) = false) (h3 : (k == 3) = false) :
    Calls Try.prog 27 #[.int .i64 k] w fun e w' => e = .returned (.tuple #[.slice none 0 0, .int .i64 1]) ∧ Below w.heap.size w w' := by
  go_enter Try.func27, Try.ntmps27
  go_wp2
  go_ret2
  exact ⟨rfl, ((Below.refl _ w).alloc (Nat.le_refl _) _).alloc (by simp) _⟩

theorem laid2_take (m : Nat) (hm : m < 256) : (laid 2).take (m + 1) = (laid 2).take m ++ [2 * (m : Int) - 255] := by
  have hl : (laid 2).length = 256 := by decide +kernel
  rw [List.take_succ_eq_append_getElem (by omega)]
  simp [laid]
set_option maxRecDepth 100000 in
set_option maxHeartbeats 1000000 in
theorem book_2 (w : World) :
    Calls Try.prog 27 #[.int .i64 2] w fun e w' => ∃ v, e = .returned (.tuple #[v, .int .i64 0]) ∧ IsI w' v (bk 2) ∧ Below w.heap.size w w' := by
  have bK := Boxed.new w 3 (.int .i64 2)
  have bO := Boxed.new (w.alloc (.cells #[.int .i64 2] 3)) 24 (.slice none 0 0)
  rw [World.size_alloc] at bO
  have hB0 : Below w.heap.size w ((w.alloc (.cells #[.int .i64 2] 3)).alloc (.cells #[.slice none 0 0] 24)) := ((Below.refl _ w).alloc (Nat.le_refl _) _).alloc (by simp) _
  go_enter Try.func27, Try.ntmps27
  go_wp2
  go_loopw [32] (fun i wr => ∃ (m : Nat) (v : Value) (l : List Int), m ≤ 256 ∧ i = .int .i64 m ∧ Hid (l = (laid 2).take m) ∧ l.length ≤ m ∧ Boxed wr w.heap.size 3 (.int .i64 2) ∧ Boxed wr (w.heap.size + 1) 24 v ∧ wr.ownsRow (w.heap.size + 2) 2 1 v l.length (is l) ∧ Below w.heap.size w wr ∧ w.heap.size + 2 ≤ wr.heap.size) (fun i _ => 256 - (intOf i).toNat)
  case atStart => exact ⟨0, _, [], by omega, rfl, Lib.hid rfl, Nat.le_refl _, bK.alloc _, bO, World.ownsRow_nil _ _ _ _, hB0, by simp⟩
  case round =>
    obtain ⟨m, v, l, hm, rfl, hl, hll, hK, hO, hown, hB, hsz⟩ := hrel
    have cK := hK.cell
    have cO := hO.cell
    by_cases hlt : m < 256
    · have E : Hid ((laid 2).take (m + 1) = l ++ [2 * (m : Int) - 255]) := by rw [Hid, laid2_take m hlt, hl.out]
      go_wp2_with fail
      refine (show Calls Try.prog 28 #[.int .i64 2] wr (fun e w' => e = .returned (.bool true) ∧ wr = w') from signed_any 2 wr).mono ?_
      rintro e w1 ⟨rfl, rfl⟩
      go_wp2_with (at_builtin; go_must (refine wpList_app1 _ rfl _ _ 24 2 (.int .i64 0) 8 rfl Try.underlying24 info_i64 rfl (w.heap.size + 2) (.int .i64 (2 * (m : Int) - 255)) rfl _ l.length (is l) rfl (hown.alloc _) ⟨wr.heap.size, 0, none⟩ rfl (by simp) (by omega) (by omega) (by simp; omega) ?_; intro v' w1 hown' hgrow; obtain ⟨g', cap', rfl⟩ := ownsRow_succ hown'; obtain ⟨hbl, hko⟩ := bx_app hown hsz hgrow; have hK1 := bx_low hK hbl (by omega); have hO1 := bx_low hO hbl (by omega); have cO1 := hO1.cell; have fO1 := hO1.frozen))
      refine ⟨⟨m + 1, _, l ++ [2 * (m : Int) - 255], by omega, by go_num, E.out.symm, by simp; omega, bx_far hK1 (by omega), hO1.set _, ?_, ?_, ?_⟩, by simp [intOf]; omega⟩
      · rw [is_snoc, List.length_append, List.length_singleton]
        exact ownsRow_setCell_below hown' (by show w.heap.size + 1 < w.heap.size + 2; omega) _
      · exact (hB.trans (hbl.mono (by omega))).setCell (p := ⟨w.heap.size + 1, 0, none⟩) (by simp) _
      · have := hbl.size; simp [World.setCell]; omega
    · obtain rfl : m = 256 := by omega
      have hL : l = laid 2 := by
        have := hl.out
        rwa [List.take_of_length_le (by decide +kernel)] at this
      have hS := sort_own _ v l wr hown (by rw [hL]; decide +kernel) (by omega)
      rw [show l.mergeSort (fun x y => decide (x ≤ y)) = bk 2 from by rw [hL]; exact sort_laid 2 (by omega)] at hS
      have S := Lib.hid hS
      clear hS hL
      go_wp2_with fail
      refine S.out.mono ?_
      rintro e w1 ⟨rfl, hI, hgr⟩
      have hO1 := hO.kept hgr (fun e => by have := (hown.lt _ e.symm).1; omega)
      have cO1 := hO1.cell
      go_wp2
      go_ret2
      exact ⟨_, rfl, hI, hB.grown hgr hB.size (fun j e => by have := (hown.lt j e).1; omega)⟩

theorem laid3_take (m : Nat) (hm : m < 256) : (laid 3).take (m + 1) = (laid 3).take m ++ [(m : Int)] := by
  have hl : (laid 3).length = 256 := by decide +kernel
  rw [List.take_succ_eq_append_getElem (by omega)]
  simp [laid]
set_option maxRecDepth 100000 in
set_option maxHeartbeats 1000000 in
theorem book_3 (w : World) :
    Calls Try.prog 27 #[.int .i64 3] w fun e w' => ∃ v, e = .returned (.tuple #[v, .int .i64 0]) ∧ IsI w' v (bk 3) ∧ Below w.heap.size w w' := by
  have bK := Boxed.new w 3 (.int .i64 3)
  have bO := Boxed.new (w.alloc (.cells #[.int .i64 3] 3)) 24 (.slice none 0 0)
  rw [World.size_alloc] at bO
  have hB0 : Below w.heap.size w ((w.alloc (.cells #[.int .i64 3] 3)).alloc (.cells #[.slice none 0 0] 24)) := ((Below.refl _ w).alloc (Nat.le_refl _) _).alloc (by simp) _
  go_enter Try.func27, Try.ntmps27
  go_wp2
  go_loopw [32] (fun i wr => ∃ (m : Nat) (v : Value) (l : List Int), m ≤ 256 ∧ i = .int .i64 m ∧ Hid (l = (laid 3).take m) ∧ l.length ≤ m ∧ Boxed wr w.heap.size 3 (.int .i64 3) ∧ Boxed wr (w.heap.size + 1) 24 v ∧ wr.ownsRow (w.heap.size + 2) 2 1 v l.length (is l) ∧ Below w.heap.size w wr ∧ w.heap.size + 2 ≤ wr.heap.size) (fun i _ => 256 - (intOf i).toNat)
  case atStart => exact ⟨0, _, [], by omega, rfl, Lib.hid rfl, Nat.le_refl _, bK.alloc _, bO, World.ownsRow_nil _ _ _ _, hB0, by simp⟩
  case round =>
    obtain ⟨m, v, l, hm, rfl, hl, hll, hK, hO, hown, hB, hsz⟩ := hrel
    have cK := hK.cell
    have cO := hO.cell
    by_cases hlt : m < 256
    · have E : Hid ((laid 3).take (m + 1) = l ++ [(m : Int)]) := by rw [Hid, laid3_take m hlt, hl.out]
      go_wp2_with fail
      refine (show Calls Try.prog 28 #[.int .i64 3] wr (fun e w' => e = .returned (.bool false) ∧ wr = w') from signed_any 3 wr).mono ?_
      rintro e w1 ⟨rfl, rfl⟩
      go_wp2_with (at_builtin; go_must (refine wpList_app1 _ rfl _ _ 24 2 (.int .i64 0) 8 rfl Try.underlying24 info_i64 rfl (w.heap.size + 2) (.int .i64 ((m : Int))) rfl _ l.length (is l) rfl (hown.alloc _) ⟨wr.heap.size, 0, none⟩ rfl (by simp) (by omega) (by omega) (by simp; omega) ?_; intro v' w1 hown' hgrow; obtain ⟨g', cap', rfl⟩ := ownsRow_succ hown'; obtain ⟨hbl, hko⟩ := bx_app hown hsz hgrow; have hK1 := bx_low hK hbl (by omega); have hO1 := bx_low hO hbl (by omega); have cO1 := hO1.cell; have fO1 := hO1.frozen))
      refine ⟨⟨m + 1, _, l ++ [(m : Int)], by omega, by go_num, E.out.symm, by simp; omega, bx_far hK1 (by omega), hO1.set _, ?_, ?_, ?_⟩, by simp [intOf]; omega⟩
      · rw [is_snoc, List.length_append, List.length_singleton]
        exact ownsRow_setCell_below hown' (by show w.heap.size + 1 < w.heap.size + 2; omega) _
      · exact (hB.trans (hbl.mono (by omega))).setCell (p := ⟨w.heap.size + 1, 0, none⟩) (by simp) _
      · have := hbl.size; simp [World.setCell]; omega
    · obtain rfl : m = 256 := by omega
      have hL : l = laid 3 := by
        have := hl.out
        rwa [List.take_of_length_le (by decide +kernel)] at this
      have hS := sort_own _ v l wr hown (by rw [hL]; decide +kernel) (by omega)
      rw [show l.mergeSort (fun x y => decide (x ≤ y)) = bk 3 from by rw [hL]; exact sort_laid 3 (by omega)] at hS
      have S := Lib.hid hS
      clear hS hL
      go_wp2_with fail
      refine S.out.mono ?_
      rintro e w1 ⟨rfl, hI, hgr⟩
      have hO1 := hO.kept hgr (fun e => by have := (hown.lt _ e.symm).1; omega)
      have cO1 := hO1.cell
      go_wp2
      go_ret2
      exact ⟨_, rfl, hI, hB.grown hgr hB.size (fun j e => by have := (hown.lt j e).1; omega)⟩
end Go.Proofs.Ytochabikpaoalaa
