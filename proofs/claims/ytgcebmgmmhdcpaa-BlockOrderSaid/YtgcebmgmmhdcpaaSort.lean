/- slices.Sort at int64, out of the shelf's contract. No condition beyond the length. -/
import Derived.Shelf.SortG.Plain
import Derived.Test.YtgcebmgmmhdcpaaChecked
namespace Go.Proofs
open Go.Shelf
def Try.laysSort_ren : Go.Shelf.Ren := ⟨fun | 53 => 23 | 64 => 33 | 63 => 32 | 78 => 47 | 79 => 48 | 70 => 38 | 71 => 39 | 72 => 40 | 73 => 41 | 74 => 42 | 75 => 43 | 59 => 44 | 76 => 45 | 77 => 46 | 88 => 55 | 89 => 56 | 90 => 57 | 91 => 58 | 92 => 59 | 68 => 60 | 96 => 64 | n => n, fun | 22 => 22 | 23 => 2 | 3 => 3 | 51 => 69 | 0 => 0 | 67 => 85 | 69 => 72 | 4 => 4 | 61 => 77 | 60 => 76 | 44 => 82 | 5 => 5 | 9 => 9 | 75 => 96 | 79 => 100 | 83 => 104 | 84 => 105 | n => n, fun | n => n⟩
theorem Try.laysSort : Go.Proofs.SlLaysN.n53 Try.prog Try.laysSort_ren := {
  mixed := by kernel_rfl
  f53 := ⟨Try.f23.name, of_decide_eq_true (by kernel_rfl), Try.func23.trans (congrArg some (by kernel_rfl))⟩
  f59 := ⟨Try.f44.name, of_decide_eq_true (by kernel_rfl), Try.func44.trans (congrArg some (by kernel_rfl))⟩
  f63 := ⟨Try.f32.name, of_decide_eq_true (by kernel_rfl), Try.func32.trans (congrArg some (by kernel_rfl))⟩
  f64 := Try.func33.trans (congrArg some (by kernel_rfl))
  f68 := ⟨Try.f60.name, of_decide_eq_true (by kernel_rfl), Try.func60.trans (congrArg some (by kernel_rfl))⟩
  f70 := ⟨Try.f38.name, of_decide_eq_true (by kernel_rfl), Try.func38.trans (congrArg some (by kernel_rfl))⟩
  f71 := ⟨Try.f39.name, of_decide_eq_true (by kernel_rfl), Try.func39.trans (congrArg some (by kernel_rfl))⟩
  f72 := ⟨Try.f40.name, of_decide_eq_true (by kernel_rfl), Try.func40.trans (congrArg some (by kernel_rfl))⟩
  f73 := ⟨Try.f41.name, of_decide_eq_true (by kernel_rfl), Try.func41.trans (congrArg some (by kernel_rfl))⟩
  f74 := ⟨Try.f42.name, of_decide_eq_true (by kernel_rfl), Try.func42.trans (congrArg some (by kernel_rfl))⟩
  f75 := ⟨Try.f43.name, of_decide_eq_true (by kernel_rfl), Try.func43.trans (congrArg some (by kernel_rfl))⟩
  f76 := ⟨Try.f45.name, of_decide_eq_true (by kernel_rfl), Try.func45.trans (congrArg some (by kernel_rfl))⟩
  f77 := ⟨Try.f46.name, of_decide_eq_true (by kernel_rfl), Try.func46.trans (congrArg some (by kernel_rfl))⟩
  f78 := Try.func47.trans (congrArg some (by kernel_rfl))
  f79 := Try.func48.trans (congrArg some (by kernel_rfl))
  f88 := ⟨Try.f55.name, of_decide_eq_true (by kernel_rfl), Try.func55.trans (congrArg some (by kernel_rfl))⟩
  f89 := Try.func56.trans (congrArg some (by kernel_rfl))
  f90 := Try.func57.trans (congrArg some (by kernel_rfl))
  f91 := ⟨Try.f58.name, of_decide_eq_true (by kernel_rfl), Try.func58.trans (congrArg some (by kernel_rfl))⟩
  f92 := ⟨Try.f59.name, of_decide_eq_true (by kernel_rfl), Try.func59.trans (congrArg some (by kernel_rfl))⟩
  f96 := ⟨Try.f64.name, of_decide_eq_true (by kernel_rfl), Try.func64.trans (congrArg some (by kernel_rfl))⟩
  t0 := Try.underlying0
  a0 := Try.isAgg0
  z0 := Try.sizeOf0
  v0 := Try.zeroValue0
  t3 := Try.underlying3
  a3 := Try.isAgg3
  z3 := Try.sizeOf3
  v3 := Try.zeroValue3
  t4 := Try.underlying4
  a4 := Try.isAgg4
  z4 := Try.sizeOf4
  v4 := Try.zeroValue4
  t5 := Try.underlying5
  a5 := Try.isAgg5
  z5 := Try.sizeOf5
  v5 := Try.zeroValue5
  t9 := Try.underlying9
  a9 := Try.isAgg9
  z9 := Try.sizeOf9
  v9 := Try.zeroValue9
  t22 := Try.underlying22
  a22 := Try.isAgg22
  z22 := Try.sizeOf22
  v22 := Try.zeroValue22
  t23 := Try.underlying2
  a23 := Try.isAgg2
  z23 := Try.sizeOf2
  v23 := Try.zeroValue2
  t44 := Try.underlying82
  a44 := Try.isAgg82
  z44 := Try.sizeOf82
  v44 := Try.zeroValue82
  t51 := Try.underlying69
  a51 := Try.isAgg69
  z51 := Try.sizeOf69
  v51 := Try.zeroValue69
  t60 := Try.underlying76
  a60 := Try.isAgg76
  z60 := Try.sizeOf76
  v60 := Try.zeroValue76
  t61 := Try.underlying77
  a61 := Try.isAgg77
  z61 := Try.sizeOf77
  v61 := Try.zeroValue77
  t67 := Try.underlying85
  a67 := Try.isAgg85
  z67 := Try.sizeOf85
  v67 := Try.zeroValue85
  t69 := Try.underlying72
  a69 := Try.isAgg72
  z69 := Try.sizeOf72
  v69 := Try.zeroValue72
  t75 := Try.underlying96
  a75 := Try.isAgg96
  z75 := Try.sizeOf96
  v75 := Try.zeroValue96
  t79 := Try.underlying100
  a79 := Try.isAgg100
  z79 := Try.sizeOf100
  v79 := Try.zeroValue100
  t83 := Try.underlying104
  a83 := Try.isAgg104
  z83 := Try.sizeOf104
  v83 := Try.zeroValue104
  t84 := Try.underlying105
  a84 := Try.isAgg105
  z84 := Try.sizeOf105
  v84 := Try.zeroValue105 }

end Go.Proofs
namespace Go.Proofs.Ytgcebmgmmhdcpaa
open Go.RowKit Go.Shelf Go.Lib Go.Sort
theorem sort_any (blk off cap : Nat) (zs : List Int) (w : World) (hH : Holds (Value.int .i64) w blk off zs.toArray) (hblk : blk < w.heap.size) (hsz : zs.length < 4611686018427387904) :
    Calls Try.prog 23 #[.slice (some ⟨blk, off, none⟩) zs.length cap] w fun e w' =>
      e = .returned (.tuple #[]) ∧ ∃ n os, w' = grow (putRow (Value.int .i64) (Sort.ahead w n) blk off (zs.mergeSort fun x y => decide (x ≤ y)).toArray) os :=
  AnyG.slices_Sort_int Try.laysSort blk off cap zs w hH hblk hsz
end Go.Proofs.Ytgcebmgmmhdcpaa
