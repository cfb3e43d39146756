/- slices.Reverse over strings and strconv.ParseUint: the shelf's contracts laid in plain words (printed by plainlay.py). -/
import Derived.Test.YtooonjcpdbbniaaDoorBase
import Derived.Test.YtooonjcpdbbniaaDoorTextM
import Derived.Shelf.Slices.ReverseS
import Derived.Shelf.Slices.Turned
import Derived.Shelf.Pu.ParseUintPublic10
namespace Go.Proofs
open Go.Shelf
def Tryd.lays217_ren : Go.Shelf.Ren := ⟨fun | 17 => 35 | n => n, fun | 24 => 63 | 9 => 9 | 3 => 3 | 4 => 4 | 0 => 0 | n => n, fun | n => n⟩
theorem Tryd.lays217 : Go.Proofs.Lays2.n17 Tryd.prog Tryd.lays217_ren := {
  mixed := by kernel_rfl
  f17 := Tryd.func35.trans (congrArg some (by kernel_rfl))
  t0 := Tryd.underlying0
  a0 := Tryd.isAgg0
  z0 := Tryd.sizeOf0
  v0 := Tryd.zeroValue0
  t3 := Tryd.underlying3
  a3 := Tryd.isAgg3
  z3 := Tryd.sizeOf3
  v3 := Tryd.zeroValue3
  t4 := Tryd.underlying4
  a4 := Tryd.isAgg4
  z4 := Tryd.sizeOf4
  v4 := Tryd.zeroValue4
  t9 := Tryd.underlying9
  a9 := Tryd.isAgg9
  z9 := Tryd.sizeOf9
  v9 := Tryd.zeroValue9
  t24 := Tryd.underlying63
  a24 := Tryd.isAgg63
  z24 := Tryd.sizeOf63
  v24 := Tryd.zeroValue63 }

def Tryd.laysPu14_ren : Go.Shelf.Ren := ⟨fun | 14 => 29 | 16 => 47 | 17 => 48 | 19 => 68 | 20 => 69 | 21 => 70 | 22 => 71 | 23 => 72 | 24 => 73 | 25 => 86 | 27 => 88 | 26 => 87 | 28 => 95 | 29 => 98 | 30 => 77 | 31 => 78 | 32 => 79 | 33 => 80 | 35 => 75 | 34 => 89 | 36 => 90 | 37 => 91 | 38 => 92 | 39 => 96 | 40 => 97 | n => n, fun | 9 => 9 | 3 => 3 | 22 => 57 | 24 => 59 | 25 => 60 | 4 => 4 | 34 => 106 | 5 => 5 | 36 => 91 | 37 => 56 | 0 => 0 | 39 => 109 | 21 => 21 | 44 => 126 | 47 => 121 | 50 => 138 | 48 => 136 | 2 => 2 | 52 => 114 | 55 => 116 | 59 => 130 | 60 => 118 | 20 => 20 | 61 => 131 | 65 => 141 | 66 => 142 | 67 => 101 | n => n, fun | 0 => 0 | 1 => 1 | 2 => 4 | 3 => 6 | 4 => 7 | n => n⟩
theorem Tryd.laysPu14 : Go.Proofs.LaysPu.n14 Tryd.prog Tryd.laysPu14_ren := {
  mixed := by kernel_rfl
  f14 := Tryd.func29.trans (congrArg some (by kernel_rfl))
  f16 := Tryd.func47.trans (congrArg some (by kernel_rfl))
  f17 := Tryd.func48.trans (congrArg some (by kernel_rfl))
  f19 := Tryd.func68.trans (congrArg some (by kernel_rfl))
  f20 := Tryd.func69.trans (congrArg some (by kernel_rfl))
  f21 := Tryd.func70.trans (congrArg some (by kernel_rfl))
  f22 := Tryd.func71.trans (congrArg some (by kernel_rfl))
  f23 := Tryd.func72.trans (congrArg some (by kernel_rfl))
  f24 := Tryd.func73.trans (congrArg some (by kernel_rfl))
  f25 := Tryd.func86.trans (congrArg some (by kernel_rfl))
  f26 := Tryd.func87.trans (congrArg some (by kernel_rfl))
  f27 := Tryd.func88.trans (congrArg some (by kernel_rfl))
  f28 := Tryd.func95.trans (congrArg some (by kernel_rfl))
  f29 := Tryd.func98.trans (congrArg some (by kernel_rfl))
  f30 := Tryd.func77.trans (congrArg some (by kernel_rfl))
  f31 := Tryd.func78.trans (congrArg some (by kernel_rfl))
  f32 := Tryd.func79.trans (congrArg some (by kernel_rfl))
  f33 := Tryd.func80.trans (congrArg some (by kernel_rfl))
  f34 := Tryd.func89.trans (congrArg some (by kernel_rfl))
  f35 := Tryd.func75.trans (congrArg some (by kernel_rfl))
  f36 := Tryd.func90.trans (congrArg some (by kernel_rfl))
  f37 := Tryd.func91.trans (congrArg some (by kernel_rfl))
  f38 := Tryd.func92.trans (congrArg some (by kernel_rfl))
  f39 := Tryd.func96.trans (congrArg some (by kernel_rfl))
  f40 := Tryd.func97.trans (congrArg some (by kernel_rfl))
  t0 := Tryd.underlying0
  a0 := Tryd.isAgg0
  z0 := Tryd.sizeOf0
  v0 := Tryd.zeroValue0
  i0 := by kernel_rfl
  t2 := Tryd.underlying2
  a2 := Tryd.isAgg2
  z2 := Tryd.sizeOf2
  v2 := Tryd.zeroValue2
  i2 := by kernel_rfl
  t3 := Tryd.underlying3
  a3 := Tryd.isAgg3
  z3 := Tryd.sizeOf3
  v3 := Tryd.zeroValue3
  i3 := by kernel_rfl
  t4 := Tryd.underlying4
  a4 := Tryd.isAgg4
  z4 := Tryd.sizeOf4
  v4 := Tryd.zeroValue4
  i4 := by kernel_rfl
  t5 := Tryd.underlying5
  a5 := Tryd.isAgg5
  z5 := Tryd.sizeOf5
  v5 := Tryd.zeroValue5
  i5 := by kernel_rfl
  t9 := Tryd.underlying9
  a9 := Tryd.isAgg9
  z9 := Tryd.sizeOf9
  v9 := Tryd.zeroValue9
  i9 := by kernel_rfl
  t20 := Tryd.underlying20
  a20 := Tryd.isAgg20
  z20 := Tryd.sizeOf20
  v20 := Tryd.zeroValue20
  i20 := by kernel_rfl
  t21 := Tryd.underlying21
  a21 := Tryd.isAgg21
  z21 := Tryd.sizeOf21
  v21 := Tryd.zeroValue21
  i21 := by kernel_rfl
  t22 := Tryd.underlying57
  a22 := Tryd.isAgg57
  z22 := Tryd.sizeOf57
  v22 := Tryd.zeroValue57
  i22 := by kernel_rfl
  t24 := Tryd.underlying59
  a24 := Tryd.isAgg59
  z24 := Tryd.sizeOf59
  v24 := Tryd.zeroValue59
  i24 := by kernel_rfl
  t25 := Tryd.underlying60
  a25 := Tryd.isAgg60
  z25 := Tryd.sizeOf60
  v25 := Tryd.zeroValue60
  i25 := by kernel_rfl
  t34 := Tryd.underlying106
  a34 := Tryd.isAgg106
  z34 := Tryd.sizeOf106
  v34 := Tryd.zeroValue106
  i34 := by kernel_rfl
  c34 := by kernel_rfl
  t36 := Tryd.underlying91
  a36 := Tryd.isAgg91
  z36 := Tryd.sizeOf91
  v36 := Tryd.zeroValue91
  i36 := by kernel_rfl
  t37 := Tryd.underlying56
  a37 := Tryd.isAgg56
  z37 := Tryd.sizeOf56
  v37 := Tryd.zeroValue56
  i37 := by kernel_rfl
  t39 := Tryd.underlying109
  a39 := Tryd.isAgg109
  z39 := Tryd.sizeOf109
  v39 := Tryd.zeroValue109
  i39 := by kernel_rfl
  t44 := Tryd.underlying126
  a44 := Tryd.isAgg126
  z44 := Tryd.sizeOf126
  v44 := Tryd.zeroValue126
  i44 := by kernel_rfl
  t47 := Tryd.underlying121
  a47 := Tryd.isAgg121
  z47 := Tryd.sizeOf121
  v47 := Tryd.zeroValue121
  i47 := by kernel_rfl
  t48 := Tryd.underlying136
  a48 := Tryd.isAgg136
  z48 := Tryd.sizeOf136
  v48 := Tryd.zeroValue136
  i48 := by kernel_rfl
  t50 := Tryd.underlying138
  a50 := Tryd.isAgg138
  z50 := Tryd.sizeOf138
  v50 := Tryd.zeroValue138
  i50 := by kernel_rfl
  t52 := Tryd.underlying114
  a52 := Tryd.isAgg114
  z52 := Tryd.sizeOf114
  v52 := Tryd.zeroValue114
  i52 := by kernel_rfl
  t55 := Tryd.underlying116
  a55 := Tryd.isAgg116
  z55 := Tryd.sizeOf116
  v55 := Tryd.zeroValue116
  i55 := by kernel_rfl
  t59 := Tryd.underlying130
  a59 := Tryd.isAgg130
  z59 := Tryd.sizeOf130
  v59 := Tryd.zeroValue130
  i59 := by kernel_rfl
  t60 := Tryd.underlying118
  a60 := Tryd.isAgg118
  z60 := Tryd.sizeOf118
  v60 := Tryd.zeroValue118
  i60 := by kernel_rfl
  t61 := Tryd.underlying131
  a61 := Tryd.isAgg131
  z61 := Tryd.sizeOf131
  t65 := Tryd.underlying141
  a65 := Tryd.isAgg141
  z65 := Tryd.sizeOf141
  v65 := Tryd.zeroValue141
  i65 := by kernel_rfl
  t66 := Tryd.underlying142
  a66 := Tryd.isAgg142
  z66 := Tryd.sizeOf142
  v66 := Tryd.zeroValue142
  i66 := by kernel_rfl
  t67 := Tryd.underlying101
  a67 := Tryd.isAgg101
  z67 := Tryd.sizeOf101
  v67 := Tryd.zeroValue101
  i67 := by kernel_rfl
  g0 := by kernel_rfl
  m0 := by kernel_rfl
  g1 := by kernel_rfl
  m1 := by kernel_rfl
  g2 := by kernel_rfl
  m2 := by kernel_rfl
  g3 := by kernel_rfl
  m3 := by kernel_rfl
  g4 := by kernel_rfl
  m4 := by kernel_rfl }

end Go.Proofs
namespace Go.Proofs.YtooonjcpdbbniaaDoor
open Go.RowKit Go.Shelf Go.Sort
theorem reverse_any (blk off cap : Nat) (zs : List (List UInt8)) (w : World) (hH : Holds encStr w blk off zs.toArray) (hsz : zs.length ≤ 9223372036854775807) :
    Calls Tryd.prog 35 #[.slice (some ⟨blk, off, none⟩) zs.length cap] w fun e w' => e = .returned (.tuple #[]) ∧ ∃ n, w' = putRow encStr (Sort.ahead w n) blk off zs.reverse.toArray :=
  Any.slices_Reverse_string Tryd.lays217 blk off cap zs w hH hsz
theorem parse_any (s : ByteArray) (w : World) (hl : s.size ≤ 18) (hn : s.data.toList ≠ []) (h : ∀ c ∈ s.data.toList, figB c = true) :
    Calls Tryd.prog 29 #[.string s, .int .i64 10, .int .i64 64] w fun e w' => e = .returned (.tuple #[.int .u64 (valT s.data.toList : Nat), .nilIface]) ∧ (w' = w ∨ w' = Lib.bytesWorld w (Tryd.laysPu14_ren.t 5) s) :=
  Any.strconv_ParseUint_10_at64_ok Tryd.laysPu14 s (by omega) _ (parse_figs h hn (by simpa using hl)) w
end Go.Proofs.YtooonjcpdbbniaaDoor
