/- slices.Sort at int64, out of the shelf's contract. No condition beyond the length. -/
import Derived.Shelf.SortG.Plain
import Derived.Test.YtnhmlkafjghlaaaChecked
namespace Go.Proofs
open Go.Shelf
def Try.laysSort_ren : Go.Shelf.Ren := ⟨fun | 53 => 19 | 64 => 23 | 63 => 22 | 78 => 35 | 79 => 36 | 70 => 26 | 71 => 27 | 72 => 28 | 73 => 29 | 74 => 30 | 75 => 31 | 59 => 32 | 76 => 33 | 77 => 34 | 88 => 38 | 89 => 39 | 90 => 40 | 91 => 41 | 92 => 42 | 68 => 43 | 96 => 44 | n => n, fun | 22 => 22 | 23 => 2 | 3 => 3 | 51 => 39 | 0 => 0 | 67 => 52 | 69 => 54 | 4 => 4 | 61 => 44 | 60 => 43 | 44 => 49 | 5 => 5 | 9 => 9 | 75 => 56 | 79 => 60 | 83 => 62 | 84 => 63 | n => n, fun | n => n⟩
theorem Try.laysSort : Go.Proofs.SlLaysN.n53 Try.prog Try.laysSort_ren := {
  mixed := by kernel_rfl
  f53 := ⟨Try.f19.name, of_decide_eq_true (by kernel_rfl), Try.func19.trans (congrArg some (by kernel_rfl))⟩
  f59 := ⟨Try.f32.name, of_decide_eq_true (by kernel_rfl), Try.func32.trans (congrArg some (by kernel_rfl))⟩
  f63 := ⟨Try.f22.name, of_decide_eq_true (by kernel_rfl), Try.func22.trans (congrArg some (by kernel_rfl))⟩
  f64 := Try.func23.trans (congrArg some (by kernel_rfl))
  f68 := ⟨Try.f43.name, of_decide_eq_true (by kernel_rfl), Try.func43.trans (congrArg some (by kernel_rfl))⟩
  f70 := ⟨Try.f26.name, of_decide_eq_true (by kernel_rfl), Try.func26.trans (congrArg some (by kernel_rfl))⟩
  f71 := ⟨Try.f27.name, of_decide_eq_true (by kernel_rfl), Try.func27.trans (congrArg some (by kernel_rfl))⟩
  f72 := ⟨Try.f28.name, of_decide_eq_true (by kernel_rfl), Try.func28.trans (congrArg some (by kernel_rfl))⟩
  f73 := ⟨Try.f29.name, of_decide_eq_true (by kernel_rfl), Try.func29.trans (congrArg some (by kernel_rfl))⟩
  f74 := ⟨Try.f30.name, of_decide_eq_true (by kernel_rfl), Try.func30.trans (congrArg some (by kernel_rfl))⟩
  f75 := ⟨Try.f31.name, of_decide_eq_true (by kernel_rfl), Try.func31.trans (congrArg some (by kernel_rfl))⟩
  f76 := ⟨Try.f33.name, of_decide_eq_true (by kernel_rfl), Try.func33.trans (congrArg some (by kernel_rfl))⟩
  f77 := ⟨Try.f34.name, of_decide_eq_true (by kernel_rfl), Try.func34.trans (congrArg some (by kernel_rfl))⟩
  f78 := Try.func35.trans (congrArg some (by kernel_rfl))
  f79 := Try.func36.trans (congrArg some (by kernel_rfl))
  f88 := ⟨Try.f38.name, of_decide_eq_true (by kernel_rfl), Try.func38.trans (congrArg some (by kernel_rfl))⟩
  f89 := Try.func39.trans (congrArg some (by kernel_rfl))
  f90 := Try.func40.trans (congrArg some (by kernel_rfl))
  f91 := ⟨Try.f41.name, of_decide_eq_true (by kernel_rfl), Try.func41.trans (congrArg some (by kernel_rfl))⟩
  f92 := ⟨Try.f42.name, of_decide_eq_true (by kernel_rfl), Try.func42.trans (congrArg some (by kernel_rfl))⟩
  f96 := ⟨Try.f44.name, of_decide_eq_true (by kernel_rfl), Try.func44.trans (congrArg some (by kernel_rfl))⟩
  t0 := Try.underlying0
  a0 := Try.isAgg0
  z0 := Try.sizeOf0
  v0 := Try.zeroValue0
  t3 := Try.underlying3
  a3 := Try.isAgg3
  z3 := Try.sizeOf3
  v3 := Try.zeroValue3
  t4 := Try.underlying4
  a4 := Try.isAgg4
  z4 := Try.sizeOf4
  v4 := Try.zeroValue4
  t5 := Try.underlying5
  a5 := Try.isAgg5
  z5 := Try.sizeOf5
  v5 := Try.zeroValue5
  t9 := Try.underlying9
  a9 := Try.isAgg9
  z9 := Try.sizeOf9
  v9 := Try.zeroValue9
  t22 := Try.underlying22
  a22 := Try.isAgg22
  z22 := Try.sizeOf22
  v22 := Try.zeroValue22
  t23 := Try.underlying2
  a23 := Try.isAgg2
  z23 := Try.sizeOf2
  v23 := Try.zeroValue2
  t44 := Try.underlying49
  a44 := Try.isAgg49
  z44 := Try.sizeOf49
  v44 := Try.zeroValue49
  t51 := Try.underlying39
  a51 := Try.isAgg39
  z51 := Try.sizeOf39
  v51 := Try.zeroValue39
  t60 := Try.underlying43
  a60 := Try.isAgg43
  z60 := Try.sizeOf43
  v60 := Try.zeroValue43
  t61 := Try.underlying44
  a61 := Try.isAgg44
  z61 := Try.sizeOf44
  v61 := Try.zeroValue44
  t67 := Try.underlying52
  a67 := Try.isAgg52
  z67 := Try.sizeOf52
  v67 := Try.zeroValue52
  t69 := Try.underlying54
  a69 := Try.isAgg54
  z69 := Try.sizeOf54
  v69 := Try.zeroValue54
  t75 := Try.underlying56
  a75 := Try.isAgg56
  z75 := Try.sizeOf56
  v75 := Try.zeroValue56
  t79 := Try.underlying60
  a79 := Try.isAgg60
  z79 := Try.sizeOf60
  v79 := Try.zeroValue60
  t83 := Try.underlying62
  a83 := Try.isAgg62
  z83 := Try.sizeOf62
  v83 := Try.zeroValue62
  t84 := Try.underlying63
  a84 := Try.isAgg63
  z84 := Try.sizeOf63
  v84 := Try.zeroValue63 }

end Go.Proofs
namespace Go.Proofs.Ytnhmlkafjghlaaa
open Go.RowKit Go.Shelf Go.Lib Go.Sort
theorem sort_any (blk off cap : Nat) (zs : List Int) (w : World) (hH : Holds (Value.int .i64) w blk off zs.toArray) (hblk : blk < w.heap.size) (hsz : zs.length < 4611686018427387904) :
    Calls Try.prog 19 #[.slice (some ⟨blk, off, none⟩) zs.length cap] w fun e w' =>
      e = .returned (.tuple #[]) ∧ ∃ n os, w' = grow (putRow (Value.int .i64) (Sort.ahead w n) blk off (zs.mergeSort fun x y => decide (x ≤ y)).toArray) os :=
  AnyG.slices_Sort_int Try.laysSort blk off cap zs w hH hblk hsz
end Go.Proofs.Ytnhmlkafjghlaaa
