/- slices.Sort at int64, out of the shelf's contract. No condition beyond the length. -/
import Derived.Shelf.SortG.Plain
import Derived.Test.YtegemdeejbdfpaaChecked
namespace Go.Proofs
open Go.Shelf
def Try.laysSort_ren : Go.Shelf.Ren := ⟨fun | 53 => 40 | 64 => 53 | 63 => 52 | 78 => 72 | 79 => 73 | 70 => 63 | 71 => 64 | 72 => 65 | 73 => 66 | 74 => 67 | 75 => 68 | 59 => 69 | 76 => 70 | 77 => 71 | 88 => 78 | 89 => 79 | 90 => 80 | 91 => 81 | 92 => 82 | 68 => 83 | 96 => 84 | n => n, fun | 22 => 45 | 23 => 2 | 3 => 3 | 51 => 63 | 0 => 0 | 67 => 93 | 69 => 56 | 4 => 4 | 61 => 85 | 60 => 84 | 44 => 90 | 5 => 5 | 9 => 9 | 75 => 98 | 79 => 102 | 83 => 104 | 84 => 105 | n => n, fun | n => n⟩
theorem Try.laysSort : Go.Proofs.SlLaysN.n53 Try.prog Try.laysSort_ren := {
  mixed := by kernel_rfl
  f53 := ⟨Try.f40.name, of_decide_eq_true (by kernel_rfl), Try.func40.trans (congrArg some (by kernel_rfl))⟩
  f59 := ⟨Try.f69.name, of_decide_eq_true (by kernel_rfl), Try.func69.trans (congrArg some (by kernel_rfl))⟩
  f63 := ⟨Try.f52.name, of_decide_eq_true (by kernel_rfl), Try.func52.trans (congrArg some (by kernel_rfl))⟩
  f64 := Try.func53.trans (congrArg some (by kernel_rfl))
  f68 := ⟨Try.f83.name, of_decide_eq_true (by kernel_rfl), Try.func83.trans (congrArg some (by kernel_rfl))⟩
  f70 := ⟨Try.f63.name, of_decide_eq_true (by kernel_rfl), Try.func63.trans (congrArg some (by kernel_rfl))⟩
  f71 := ⟨Try.f64.name, of_decide_eq_true (by kernel_rfl), Try.func64.trans (congrArg some (by kernel_rfl))⟩
  f72 := ⟨Try.f65.name, of_decide_eq_true (by kernel_rfl), Try.func65.trans (congrArg some (by kernel_rfl))⟩
  f73 := ⟨Try.f66.name, of_decide_eq_true (by kernel_rfl), Try.func66.trans (congrArg some (by kernel_rfl))⟩
  f74 := ⟨Try.f67.name, of_decide_eq_true (by kernel_rfl), Try.func67.trans (congrArg some (by kernel_rfl))⟩
  f75 := ⟨Try.f68.name, of_decide_eq_true (by kernel_rfl), Try.func68.trans (congrArg some (by kernel_rfl))⟩
  f76 := ⟨Try.f70.name, of_decide_eq_true (by kernel_rfl), Try.func70.trans (congrArg some (by kernel_rfl))⟩
  f77 := ⟨Try.f71.name, of_decide_eq_true (by kernel_rfl), Try.func71.trans (congrArg some (by kernel_rfl))⟩
  f78 := Try.func72.trans (congrArg some (by kernel_rfl))
  f79 := Try.func73.trans (congrArg some (by kernel_rfl))
  f88 := ⟨Try.f78.name, of_decide_eq_true (by kernel_rfl), Try.func78.trans (congrArg some (by kernel_rfl))⟩
  f89 := Try.func79.trans (congrArg some (by kernel_rfl))
  f90 := Try.func80.trans (congrArg some (by kernel_rfl))
  f91 := ⟨Try.f81.name, of_decide_eq_true (by kernel_rfl), Try.func81.trans (congrArg some (by kernel_rfl))⟩
  f92 := ⟨Try.f82.name, of_decide_eq_true (by kernel_rfl), Try.func82.trans (congrArg some (by kernel_rfl))⟩
  f96 := ⟨Try.f84.name, of_decide_eq_true (by kernel_rfl), Try.func84.trans (congrArg some (by kernel_rfl))⟩
  t0 := Try.underlying0
  a0 := Try.isAgg0
  z0 := Try.sizeOf0
  v0 := Try.zeroValue0
  t3 := Try.underlying3
  a3 := Try.isAgg3
  z3 := Try.sizeOf3
  v3 := Try.zeroValue3
  t4 := Try.underlying4
  a4 := Try.isAgg4
  z4 := Try.sizeOf4
  v4 := Try.zeroValue4
  t5 := Try.underlying5
  a5 := Try.isAgg5
  z5 := Try.sizeOf5
  v5 := Try.zeroValue5
  t9 := Try.underlying9
  a9 := Try.isAgg9
  z9 := Try.sizeOf9
  v9 := Try.zeroValue9
  t22 := Try.underlying45
  a22 := Try.isAgg45
  z22 := Try.sizeOf45
  v22 := Try.zeroValue45
  t23 := Try.underlying2
  a23 := Try.isAgg2
  z23 := Try.sizeOf2
  v23 := Try.zeroValue2
  t44 := Try.underlying90
  a44 := Try.isAgg90
  z44 := Try.sizeOf90
  v44 := Try.zeroValue90
  t51 := Try.underlying63
  a51 := Try.isAgg63
  z51 := Try.sizeOf63
  v51 := Try.zeroValue63
  t60 := Try.underlying84
  a60 := Try.isAgg84
  z60 := Try.sizeOf84
  v60 := Try.zeroValue84
  t61 := Try.underlying85
  a61 := Try.isAgg85
  z61 := Try.sizeOf85
  v61 := Try.zeroValue85
  t67 := Try.underlying93
  a67 := Try.isAgg93
  z67 := Try.sizeOf93
  v67 := Try.zeroValue93
  t69 := Try.underlying56
  a69 := Try.isAgg56
  z69 := Try.sizeOf56
  v69 := Try.zeroValue56
  t75 := Try.underlying98
  a75 := Try.isAgg98
  z75 := Try.sizeOf98
  v75 := Try.zeroValue98
  t79 := Try.underlying102
  a79 := Try.isAgg102
  z79 := Try.sizeOf102
  v79 := Try.zeroValue102
  t83 := Try.underlying104
  a83 := Try.isAgg104
  z83 := Try.sizeOf104
  v83 := Try.zeroValue104
  t84 := Try.underlying105
  a84 := Try.isAgg105
  z84 := Try.sizeOf105
  v84 := Try.zeroValue105 }

end Go.Proofs
namespace Go.Proofs.Ytegemdeejbdfpaa
open Go.RowKit Go.Shelf Go.Lib Go.Sort
theorem sort_any (blk off cap : Nat) (zs : List Int) (w : World) (hH : Holds (Value.int .i64) w blk off zs.toArray) (hblk : blk < w.heap.size) (hsz : zs.length < 4611686018427387904) :
    Calls Try.prog 40 #[.slice (some ⟨blk, off, none⟩) zs.length cap] w fun e w' =>
      e = .returned (.tuple #[]) ∧ ∃ n os, w' = grow (putRow (Value.int .i64) (Sort.ahead w n) blk off (zs.mergeSort fun x y => decide (x ≤ y)).toArray) os :=
  AnyG.slices_Sort_int Try.laysSort blk off cap zs w hH hblk hsz
end Go.Proofs.Ytegemdeejbdfpaa
