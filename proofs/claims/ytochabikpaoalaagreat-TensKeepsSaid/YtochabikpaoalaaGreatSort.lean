/- slices.Sort at int64, out of the shelf's contract. No condition beyond the length. -/
import Derived.Shelf.SortG.Plain
import Derived.Test.YtochabikpaoalaaGreatChecked
import Derived.Test.YtochabikpaoalaaGreatBook0
import Derived.RangeFuncBox
import Derived.RangeFuncWrites
import Derived.Maps.AppendAt
import Derived.Deep.DeepMust
import Derived.Outline
namespace Go.Proofs
open Go.Shelf
def Tryz.laysSort_ren : Go.Shelf.Ren := ⟨fun | 53 => 58 | 64 => 81 | 63 => 80 | 78 => 112 | 79 => 113 | 70 => 103 | 71 => 104 | 72 => 105 | 73 => 106 | 74 => 107 | 75 => 108 | 59 => 109 | 76 => 110 | 77 => 111 | 88 => 131 | 89 => 132 | 90 => 133 | 91 => 134 | 92 => 135 | 68 => 136 | 96 => 142 | n => n, fun | 22 => 34 | 23 => 2 | 3 => 3 | 51 => 110 | 0 => 0 | 67 => 134 | 69 => 103 | 4 => 4 | 61 => 126 | 60 => 125 | 44 => 131 | 5 => 5 | 9 => 9 | 75 => 152 | 79 => 156 | 83 => 162 | 84 => 163 | n => n, fun | n => n⟩
theorem Tryz.laysSort : Go.Proofs.SlLaysN.n53 Tryz.prog Tryz.laysSort_ren := {
  mixed := by kernel_rfl
  f53 := ⟨Tryz.f58.name, of_decide_eq_true (by kernel_rfl), Tryz.func58.trans (congrArg some (by kernel_rfl))⟩
  f59 := ⟨Tryz.f109.name, of_decide_eq_true (by kernel_rfl), Tryz.func109.trans (congrArg some (by kernel_rfl))⟩
  f63 := ⟨Tryz.f80.name, of_decide_eq_true (by kernel_rfl), Tryz.func80.trans (congrArg some (by kernel_rfl))⟩
  f64 := Tryz.func81.trans (congrArg some (by kernel_rfl))
  f68 := ⟨Tryz.f136.name, of_decide_eq_true (by kernel_rfl), Tryz.func136.trans (congrArg some (by kernel_rfl))⟩
  f70 := ⟨Tryz.f103.name, of_decide_eq_true (by kernel_rfl), Tryz.func103.trans (congrArg some (by kernel_rfl))⟩
  f71 := ⟨Tryz.f104.name, of_decide_eq_true (by kernel_rfl), Tryz.func104.trans (congrArg some (by kernel_rfl))⟩
  f72 := ⟨Tryz.f105.name, of_decide_eq_true (by kernel_rfl), Tryz.func105.trans (congrArg some (by kernel_rfl))⟩
  f73 := ⟨Tryz.f106.name, of_decide_eq_true (by kernel_rfl), Tryz.func106.trans (congrArg some (by kernel_rfl))⟩
  f74 := ⟨Tryz.f107.name, of_decide_eq_true (by kernel_rfl), Tryz.func107.trans (congrArg some (by kernel_rfl))⟩
  f75 := ⟨Tryz.f108.name, of_decide_eq_true (by kernel_rfl), Tryz.func108.trans (congrArg some (by kernel_rfl))⟩
  f76 := ⟨Tryz.f110.name, of_decide_eq_true (by kernel_rfl), Tryz.func110.trans (congrArg some (by kernel_rfl))⟩
  f77 := ⟨Tryz.f111.name, of_decide_eq_true (by kernel_rfl), Tryz.func111.trans (congrArg some (by kernel_rfl))⟩
  f78 := Tryz.func112.trans (congrArg some (by kernel_rfl))
  f79 := Tryz.func113.trans (congrArg some (by kernel_rfl))
  f88 := ⟨Tryz.f131.name, of_decide_eq_true (by kernel_rfl), Tryz.func131.trans (congrArg some (by kernel_rfl))⟩
  f89 := Tryz.func132.trans (congrArg some (by kernel_rfl))
  f90 := Tryz.func133.trans (congrArg some (by kernel_rfl))
  f91 := ⟨Tryz.f134.name, of_decide_eq_true (by kernel_rfl), Tryz.func134.trans (congrArg some (by kernel_rfl))⟩
  f92 := ⟨Tryz.f135.name, of_decide_eq_true (by kernel_rfl), Tryz.func135.trans (congrArg some (by kernel_rfl))⟩
  f96 := ⟨Tryz.f142.name, of_decide_eq_true (by kernel_rfl), Tryz.func142.trans (congrArg some (by kernel_rfl))⟩
  t0 := Tryz.underlying0
  a0 := Tryz.isAgg0
  z0 := Tryz.sizeOf0
  v0 := Tryz.zeroValue0
  t3 := Tryz.underlying3
  a3 := Tryz.isAgg3
  z3 := Tryz.sizeOf3
  v3 := Tryz.zeroValue3
  t4 := Tryz.underlying4
  a4 := Tryz.isAgg4
  z4 := Tryz.sizeOf4
  v4 := Tryz.zeroValue4
  t5 := Tryz.underlying5
  a5 := Tryz.isAgg5
  z5 := Tryz.sizeOf5
  v5 := Tryz.zeroValue5
  t9 := Tryz.underlying9
  a9 := Tryz.isAgg9
  z9 := Tryz.sizeOf9
  v9 := Tryz.zeroValue9
  t22 := Tryz.underlying34
  a22 := Tryz.isAgg34
  z22 := Tryz.sizeOf34
  v22 := Tryz.zeroValue34
  t23 := Tryz.underlying2
  a23 := Tryz.isAgg2
  z23 := Tryz.sizeOf2
  v23 := Tryz.zeroValue2
  t44 := Tryz.underlying131
  a44 := Tryz.isAgg131
  z44 := Tryz.sizeOf131
  v44 := Tryz.zeroValue131
  t51 := Tryz.underlying110
  a51 := Tryz.isAgg110
  z51 := Tryz.sizeOf110
  v51 := Tryz.zeroValue110
  t60 := Tryz.underlying125
  a60 := Tryz.isAgg125
  z60 := Tryz.sizeOf125
  v60 := Tryz.zeroValue125
  t61 := Tryz.underlying126
  a61 := Tryz.isAgg126
  z61 := Tryz.sizeOf126
  v61 := Tryz.zeroValue126
  t67 := Tryz.underlying134
  a67 := Tryz.isAgg134
  z67 := Tryz.sizeOf134
  v67 := Tryz.zeroValue134
  t69 := Tryz.underlying103
  a69 := Tryz.isAgg103
  z69 := Tryz.sizeOf103
  v69 := Tryz.zeroValue103
  t75 := Tryz.underlying152
  a75 := Tryz.isAgg152
  z75 := Tryz.sizeOf152
  v75 := Tryz.zeroValue152
  t79 := Tryz.underlying156
  a79 := Tryz.isAgg156
  z79 := Tryz.sizeOf156
  v79 := Tryz.zeroValue156
  t83 := Tryz.underlying162
  a83 := Tryz.isAgg162
  z83 := Tryz.sizeOf162
  v83 := Tryz.zeroValue162
  t84 := Tryz.underlying163
  a84 := Tryz.isAgg163
  z84 := Tryz.sizeOf163
  v84 := Tryz.zeroValue163 }

end Go.Proofs
namespace Go.Proofs.YtochabikpaoalaaGreat
open Go.RowKit Go.Shelf Go.Lib Go.Sort
theorem sort_any (blk off cap : Nat) (zs : List Int) (w : World) (hH : Holds (Value.int .i64) w blk off zs.toArray) (hblk : blk < w.heap.size) (hsz : zs.length < 4611686018427387904) :
    Calls Tryz.prog 58 #[.slice (some ⟨blk, off, none⟩) zs.length cap] w fun e w' =>
      e = .returned (.tuple #[]) ∧ ∃ n os, w' = grow (putRow (Value.int .i64) (Sort.ahead w n) blk off (zs.mergeSort fun x y => decide (x ≤ y)).toArray) os :=
  AnyG.slices_Sort_int Tryz.laysSort blk off cap zs w hH hblk hsz
end Go.Proofs.YtochabikpaoalaaGreat
namespace Go.Proofs.YtochabikpaoalaaGreat
open Go.RowKit Go.Shelf
attribute [local go_sem] Oper.semAt_some

def sgn (k : Int) : Bool := k == 0 || k == 2
def den (k : Int) : Int := if k = 0 ∨ k = 1 then 2560000000 else if k = 2 ∨ k = 3 then 255 else 0
theorem kind_cases (k : Int) : k = 0 ∨ k = 1 ∨ k = 2 ∨ k = 3 ∨ ((k == 0) = false ∧ (k == 1) = false ∧ (k == 2) = false ∧ (k == 3) = false) := by
  simp only [beq_eq_false_iff_ne]; omega
set_option maxHeartbeats 400000 in
theorem signed_any (k : Int) (w : World) : Calls Tryz.prog 46 #[.int .i64 k] w fun e w' => e = .returned (.bool (sgn k)) ∧ w = w' := by
  rcases kind_cases k with rfl | rfl | rfl | rfl | ⟨h0, h1, h2, h3⟩
  all_goals
    go_enter Tryz.func46, Tryz.ntmps46
    go_wp2
    go_ret
  all_goals first | exact ⟨rfl, rfl⟩ | exact ⟨ret_bool (by simp [sgn, h0, h2]), rfl⟩
set_option maxHeartbeats 400000 in
theorem den_any (k : Int) (w : World) : Calls Tryz.prog 62 #[.int .i64 k] w fun e w' => e = .returned (.int .i64 (den k)) ∧ w = w' := by
  rcases kind_cases k with rfl | rfl | rfl | rfl | ⟨h0, h1, h2, h3⟩
  all_goals
    go_enter Tryz.func62, Tryz.ntmps62
    go_wp2
    go_ret
  all_goals first | exact ⟨rfl, rfl⟩ | exact ⟨ret_int (by simp at h0 h1 h2 h3; simp [den, h0, h1, h2, h3]), rfl⟩
set_option maxHeartbeats 400000 in
theorem decade_any (b : Bool) (w : World) : Calls Tryz.prog 57 #[.bool b] w fun e w' => e = .returned (.func (.func 79) #[] #[.pointer (some ⟨w.heap.size, 0, none⟩)]) ∧ w' = w.alloc (.cells #[.bool b] 4) := by
  have hmf : ∀ (fn : Fn) (first cap : Array Value) (w : World), (Instr.makeFunc fn first cap).run Tryz.prog w = .ok (.func fn first cap) w := fun _ _ _ _ => rfl
  go_enter Tryz.func57, Tryz.ntmps57
  go_wp2
  go_ret
  exact ⟨rfl, rfl⟩
end Go.Proofs.YtochabikpaoalaaGreat
namespace Go.Proofs.YtochabikpaoalaaGreat
open Go.RowKit Go.Shelf Go.Sort

theorem sort_own (base : Nat) (v : Value) (l : List Int) (w : World) (hown : w.ownsRow base 2 1 v l.length (is l)) (h0 : 0 < l.length) (hlen : l.length ≤ 1000000) :
    Calls Tryz.prog 58 #[v] w fun e w' => e = .returned (.tuple #[]) ∧ IsI w' v (l.mergeSort fun x y => decide (x ≤ y)) ∧ w.grownBy w' v.ownBlock := by
  have hown0 := hown
  rcases hown.2 with ⟨_, h⟩ | ⟨g, cap, cur, rfl, hb, hh, hn, hcap, hs, ht⟩
  · omega
  · have hg : g < w.heap.size := (Array.getElem?_eq_some_iff.1 hh).1
    have hH : Holds (Value.int .i64) w g 0 l.toArray := fun j hj => by
      have hj' : j < l.length := by simpa using hj
      refine ⟨?_, hown0.frozenAt _⟩
      rw [Nat.zero_add, hown0.cellAt j (by omega), is_at l j hj']
      simp [iat, hj']
    refine (sort_any g 0 cap l w hH hg (by omega)).mono ?_
    rintro e w' ⟨rfl, n, os, rfl⟩
    have hsz : (putRow (Value.int .i64) (Sort.ahead w n) g 0 (l.mergeSort fun x y => decide (x ≤ y)).toArray).heap.size = w.heap.size := by
      simp [putRow, mapBlock, Sort.ahead]
    have hms : (l.mergeSort fun x y => decide (x ≤ y)).length = l.length := List.length_mergeSort _
    refine ⟨rfl, ⟨some ⟨g, 0, none⟩, cap, by rw [hms], by omega, hcap, by rw [is_len]; omega, fun _ => ⟨_, rfl, ?_, fun j u hu => ?_⟩⟩, ?_⟩
    · show g < (grow _ os).heap.size
      simp only [grow, Array.size_append]; omega
    · have hj : j < l.length := by
        rcases Nat.lt_or_ge j l.length with h' | h'
        · exact h'
        · rw [List.getElem?_eq_none (by rw [is_len]; omega)] at hu; cases hu
      have e : Addr.add ⟨g, 0, none⟩ j = ⟨g, j, none⟩ := by unfold Addr.add; split <;> simp_all
      rw [e, cell?_grow _ _ _ (by rw [hsz]; exact hg)]
      have hc := cell?_putRow (Value.int .i64) (Sort.ahead w n) g 0 l.toArray (l.mergeSort fun x y => decide (x ≤ y)).toArray (holds_ahead _ w n g 0 _ hH) (by simp) j (by simpa using hj)
      rw [Nat.zero_add] at hc
      rw [hc, ← hu, is_at _ j (by omega)]
      simp [iat, hms, hj]
    · refine ⟨rfl, rfl, rfl, ?_, fun i hi hne => ?_⟩
      · show w.heap.size ≤ (grow _ os).heap.size
        simp only [grow, Array.size_append]; omega
      · have hig : i ≠ g := fun e => hne (by rw [e]; rfl)
        rw [heap_grow_old _ _ (by rw [hsz]; exact hi)]
        simp [putRow, mapBlock, Sort.ahead, Array.getElem?_modify, Ne.symm hig]
end Go.Proofs.YtochabikpaoalaaGreat
namespace Go.Proofs.YtochabikpaoalaaGreat
open Go.RowKit Go.Shelf

theorem bx_far {W : World} {C B : Nat} {t : TypeId} {u x : Value} (h : Boxed W C t u) (hne : C ≠ B) : Boxed (W.setCell ⟨B, 0, none⟩ x) C t u := (Below.heap_setCell W ⟨B, 0, none⟩ x C hne).trans h
theorem bx_low {W w1 : World} {b₁ C : Nat} {t : TypeId} {u : Value} (h : Boxed W C t u) (hb : Below b₁ W w1) (hC : C < b₁) : Boxed w1 C t u := (hb.block C hC).trans h
theorem bx_kept {W W' : World} {row : Option Nat} {B : Nat} {t : TypeId} {v : Value} (h : Boxed W B t v) (hg : W.grownBy W' row) (hr : ∀ r, row = some r → ∃ o : Obj, W.heap[r]? = some o ∧ o.isCells = false) : Boxed W' B t v :=
  h.kept hg (fun e => by obtain ⟨o, ho, hc⟩ := hr B e.symm; rw [show W.heap[B]? = _ from h] at ho; cases ho; cases hc)
/-- behind an append onto a row that lies from b₁ on -/
theorem bx_app {W w1 : World} {b₁ : Nat} {e : TypeId} {v : Value} {k : Nat} {xs : List Value} {tmp : Obj} (hrow : W.ownsRow b₁ e 1 v k xs) (hb₁ : b₁ ≤ W.heap.size) (hgrow : (W.alloc tmp).grownBy w1 v.ownBlock) :
    Below b₁ W w1 ∧ KeepsOthers W w1 := by
  refine ⟨((Below.refl b₁ W).alloc hb₁ tmp).grown hgrow (by simp; omega) fun j ej => (hrow.lt j ej).1, (KeepsOthers.alloc W tmp).trans (KeepsOthers.of_grownBy hgrow fun j o ej hj => ?_)⟩
  rcases (hrow.alloc tmp).2 with ⟨rfl, _⟩ | ⟨g, cap, cur, rfl, _, hgb, _⟩
  · simp [Value.ownBlock] at ej
  · obtain rfl : g = j := by simpa [Value.ownBlock] using ej
    rw [hgb] at hj; cases hj; rfl

set_option maxHeartbeats 400000 in
theorem book_none (k : Int) (w : World) (h0 : (k == 0) = false) (h1 : (k == 1) = false) (h2 : (k == 2) = false) (h3 : (k == 3) = false) :
    Calls Tryz.prog 45 #[.int .i64 k] w fun e w' => e = .returned (.tuple #[.slice none 0 0, .int .i64 1]) ∧ Below w.heap.size w w' := by
  go_enter Tryz.func45, Tryz.ntmps45
  go_wp2
  go_ret2
  exact ⟨rfl, ((Below.refl _ w).alloc (Nat.le_refl _) _).alloc (by simp) _⟩

theorem laid2_take (m : Nat) (hm : m < 256) : (laid 2).take (m + 1) = (laid 2).take m ++ [2 * (m : Int) - 255] := by
  have hl : (laid 2).length = 256 := by decide +kernel
  rw [List.take_succ_eq_append_getElem (by omega)]
  simp [laid]
set_option maxRecDepth 100000 in
set_option maxHeartbeats 1000000 in
theorem book_2 (w : World) :
    Calls Tryz.prog 45 #[.int .i64 2] w fun e w' => ∃ v, e = .returned (.tuple #[v, .int .i64 0]) ∧ IsI w' v (bk 2) ∧ Below w.heap.size w w' := by
  have bK := Boxed.new w 3 (.int .i64 2)
  have bO := Boxed.new (w.alloc (.cells #[.int .i64 2] 3)) 34 (.slice none 0 0)
  rw [World.size_alloc] at bO
  have hB0 : Below w.heap.size w ((w.alloc (.cells #[.int .i64 2] 3)).alloc (.cells #[.slice none 0 0] 34)) := ((Below.refl _ w).alloc (Nat.le_refl _) _).alloc (by simp) _
  go_enter Tryz.func45, Tryz.ntmps45
  go_wp2
  go_loopw [32] (fun i wr => ∃ (m : Nat) (v : Value) (l : List Int), m ≤ 256 ∧ i = .int .i64 m ∧ Hid (l = (laid 2).take m) ∧ l.length ≤ m ∧ Boxed wr w.heap.size 3 (.int .i64 2) ∧ Boxed wr (w.heap.size + 1) 34 v ∧ wr.ownsRow (w.heap.size + 2) 2 1 v l.length (is l) ∧ Below w.heap.size w wr ∧ w.heap.size + 2 ≤ wr.heap.size) (fun i _ => 256 - (intOf i).toNat)
  case atStart => exact ⟨0, _, [], by omega, rfl, Lib.hid rfl, Nat.le_refl _, bK.alloc _, bO, World.ownsRow_nil _ _ _ _, hB0, by simp⟩
  case round =>
    obtain ⟨m, v, l, hm, rfl, hl, hll, hK, hO, hown, hB, hsz⟩ := hrel
    have cK := hK.cell
    have cO := hO.cell
    by_cases hlt : m < 256
    · have E : Hid ((laid 2).take (m + 1) = l ++ [2 * (m : Int) - 255]) := by rw [Hid, laid2_take m hlt, hl.out]
      go_wp2_with fail
      refine (show Calls Tryz.prog 46 #[.int .i64 2] wr (fun e w' => e = .returned (.bool true) ∧ wr = w') from signed_any 2 wr).mono ?_
      rintro e w1 ⟨rfl, rfl⟩
      go_wp2_with (at_builtin; go_must (refine wpList_app1 _ rfl _ _ 34 2 (.int .i64 0) 8 rfl Tryz.underlying34 info_i64 rfl (w.heap.size + 2) (.int .i64 (2 * (m : Int) - 255)) rfl _ l.length (is l) rfl (hown.alloc _) ⟨wr.heap.size, 0, none⟩ rfl (by simp) (by omega) (by omega) (by simp; omega) ?_; intro v' w1 hown' hgrow; obtain ⟨g', cap', rfl⟩ := ownsRow_succ hown'; obtain ⟨hbl, hko⟩ := bx_app hown hsz hgrow; have hK1 := bx_low hK hbl (by omega); have hO1 := bx_low hO hbl (by omega); have cO1 := hO1.cell; have fO1 := hO1.frozen))
      refine ⟨⟨m + 1, _, l ++ [2 * (m : Int) - 255], by omega, by go_num, E.out.symm, by simp; omega, bx_far hK1 (by omega), hO1.set _, ?_, ?_, ?_⟩, by simp [intOf]; omega⟩
      · rw [is_snoc, List.length_append, List.length_singleton]
        exact ownsRow_setCell_below hown' (by show w.heap.size + 1 < w.heap.size + 2; omega) _
      · exact (hB.trans (hbl.mono (by omega))).setCell (p := ⟨w.heap.size + 1, 0, none⟩) (by simp) _
      · have := hbl.size; simp [World.setCell]; omega
    · obtain rfl : m = 256 := by omega
      have hL : l = laid 2 := by
        have := hl.out
        rwa [List.take_of_length_le (by decide +kernel)] at this
      have hS := sort_own _ v l wr hown (by rw [hL]; decide +kernel) (by omega)
      rw [show l.mergeSort (fun x y => decide (x ≤ y)) = bk 2 from by rw [hL]; exact sort_laid 2 (by omega)] at hS
      have S := Lib.hid hS
      clear hS hL
      go_wp2_with fail
      refine S.out.mono ?_
      rintro e w1 ⟨rfl, hI, hgr⟩
      have hO1 := hO.kept hgr (fun e => by have := (hown.lt _ e.symm).1; omega)
      have cO1 := hO1.cell
      go_wp2
      go_ret2
      exact ⟨_, rfl, hI, hB.grown hgr hB.size (fun j e => by have := (hown.lt j e).1; omega)⟩

theorem laid3_take (m : Nat) (hm : m < 256) : (laid 3).take (m + 1) = (laid 3).take m ++ [(m : Int)] := by
  have hl : (laid 3).length = 256 := by decide +kernel
  rw [List.take_succ_eq_append_getElem (by omega)]
  simp [laid]
set_option maxRecDepth 100000 in
set_option maxHeartbeats 1000000 in
theorem book_3 (w : World) :
    Calls Tryz.prog 45 #[.int .i64 3] w fun e w' => ∃ v, e = .returned (.tuple #[v, .int .i64 0]) ∧ IsI w' v (bk 3) ∧ Below w.heap.size w w' := by
  have bK := Boxed.new w 3 (.int .i64 3)
  have bO := Boxed.new (w.alloc (.cells #[.int .i64 3] 3)) 34 (.slice none 0 0)
  rw [World.size_alloc] at bO
  have hB0 : Below w.heap.size w ((w.alloc (.cells #[.int .i64 3] 3)).alloc (.cells #[.slice none 0 0] 34)) := ((Below.refl _ w).alloc (Nat.le_refl _) _).alloc (by simp) _
  go_enter Tryz.func45, Tryz.ntmps45
  go_wp2
  go_loopw [32] (fun i wr => ∃ (m : Nat) (v : Value) (l : List Int), m ≤ 256 ∧ i = .int .i64 m ∧ Hid (l = (laid 3).take m) ∧ l.length ≤ m ∧ Boxed wr w.heap.size 3 (.int .i64 3) ∧ Boxed wr (w.heap.size + 1) 34 v ∧ wr.ownsRow (w.heap.size + 2) 2 1 v l.length (is l) ∧ Below w.heap.size w wr ∧ w.heap.size + 2 ≤ wr.heap.size) (fun i _ => 256 - (intOf i).toNat)
  case atStart => exact ⟨0, _, [], by omega, rfl, Lib.hid rfl, Nat.le_refl _, bK.alloc _, bO, World.ownsRow_nil _ _ _ _, hB0, by simp⟩
  case round =>
    obtain ⟨m, v, l, hm, rfl, hl, hll, hK, hO, hown, hB, hsz⟩ := hrel
    have cK := hK.cell
    have cO := hO.cell
    by_cases hlt : m < 256
    · have E : Hid ((laid 3).take (m + 1) = l ++ [(m : Int)]) := by rw [Hid, laid3_take m hlt, hl.out]
      go_wp2_with fail
      refine (show Calls Tryz.prog 46 #[.int .i64 3] wr (fun e w' => e = .returned (.bool false) ∧ wr = w') from signed_any 3 wr).mono ?_
      rintro e w1 ⟨rfl, rfl⟩
      go_wp2_with (at_builtin; go_must (refine wpList_app1 _ rfl _ _ 34 2 (.int .i64 0) 8 rfl Tryz.underlying34 info_i64 rfl (w.heap.size + 2) (.int .i64 ((m : Int))) rfl _ l.length (is l) rfl (hown.alloc _) ⟨wr.heap.size, 0, none⟩ rfl (by simp) (by omega) (by omega) (by simp; omega) ?_; intro v' w1 hown' hgrow; obtain ⟨g', cap', rfl⟩ := ownsRow_succ hown'; obtain ⟨hbl, hko⟩ := bx_app hown hsz hgrow; have hK1 := bx_low hK hbl (by omega); have hO1 := bx_low hO hbl (by omega); have cO1 := hO1.cell; have fO1 := hO1.frozen))
      refine ⟨⟨m + 1, _, l ++ [(m : Int)], by omega, by go_num, E.out.symm, by simp; omega, bx_far hK1 (by omega), hO1.set _, ?_, ?_, ?_⟩, by simp [intOf]; omega⟩
      · rw [is_snoc, List.length_append, List.length_singleton]
        exact ownsRow_setCell_below hown' (by show w.heap.size + 1 < w.heap.size + 2; omega) _
      · exact (hB.trans (hbl.mono (by omega))).setCell (p := ⟨w.heap.size + 1, 0, none⟩) (by simp) _
      · have := hbl.size; simp [World.setCell]; omega
    · obtain rfl : m = 256 := by omega
      have hL : l = laid 3 := by
        have := hl.out
        rwa [List.take_of_length_le (by decide +kernel)] at this
      have hS := sort_own _ v l wr hown (by rw [hL]; decide +kernel) (by omega)
      rw [show l.mergeSort (fun x y => decide (x ≤ y)) = bk 3 from by rw [hL]; exact sort_laid 3 (by omega)] at hS
      have S := Lib.hid hS
      clear hS hL
      go_wp2_with fail
      refine S.out.mono ?_
      rintro e w1 ⟨rfl, hI, hgr⟩
      have hO1 := hO.kept hgr (fun e => by have := (hown.lt _ e.symm).1; omega)
      have cO1 := hO1.cell
      go_wp2
      go_ret2
      exact ⟨_, rfl, hI, hB.grown hgr hB.size (fun j e => by have := (hown.lt j e).1; omega)⟩
end Go.Proofs.YtochabikpaoalaaGreat
