/- slices.Reverse over strings and strconv.ParseUint: the shelf's contracts laid in plain words (printed by plainlay.py). -/
import Derived.Test.YtooonjcpdbbniaaGreatDoorBase
import Derived.Test.YtooonjcpdbbniaaGreatDoorTextM
import Derived.Shelf.Slices.ReverseS
import Derived.Shelf.Slices.Turned
import Derived.Shelf.Pu.ParseUintPublic10
namespace Go.Proofs
open Go.Shelf
def Tryz.lays217_ren : Go.Shelf.Ren := ⟨fun | 17 => 49 | n => n, fun | 24 => 62 | 9 => 9 | 3 => 3 | 4 => 4 | 0 => 0 | n => n, fun | n => n⟩
theorem Tryz.lays217 : Go.Proofs.Lays2.n17 Tryz.prog Tryz.lays217_ren := {
  mixed := by kernel_rfl
  f17 := Tryz.func49.trans (congrArg some (by kernel_rfl))
  t0 := Tryz.underlying0
  a0 := Tryz.isAgg0
  z0 := Tryz.sizeOf0
  v0 := Tryz.zeroValue0
  t3 := Tryz.underlying3
  a3 := Tryz.isAgg3
  z3 := Tryz.sizeOf3
  v3 := Tryz.zeroValue3
  t4 := Tryz.underlying4
  a4 := Tryz.isAgg4
  z4 := Tryz.sizeOf4
  v4 := Tryz.zeroValue4
  t9 := Tryz.underlying9
  a9 := Tryz.isAgg9
  z9 := Tryz.sizeOf9
  v9 := Tryz.zeroValue9
  t24 := Tryz.underlying62
  a24 := Tryz.isAgg62
  z24 := Tryz.sizeOf62
  v24 := Tryz.zeroValue62 }

def Tryz.laysPu14_ren : Go.Shelf.Ren := ⟨fun | 14 => 45 | 16 => 66 | 17 => 67 | 19 => 90 | 20 => 91 | 21 => 92 | 22 => 93 | 23 => 94 | 24 => 95 | 25 => 105 | 27 => 107 | 26 => 106 | 28 => 114 | 29 => 117 | 30 => 98 | 31 => 99 | 32 => 100 | 33 => 101 | 35 => 97 | 34 => 108 | 36 => 109 | 37 => 110 | 38 => 111 | 39 => 115 | 40 => 116 | n => n, fun | 9 => 9 | 3 => 3 | 22 => 44 | 24 => 59 | 25 => 60 | 4 => 4 | 34 => 109 | 5 => 5 | 36 => 92 | 37 => 57 | 0 => 0 | 39 => 112 | 21 => 21 | 44 => 126 | 47 => 123 | 50 => 138 | 48 => 136 | 2 => 2 | 52 => 116 | 55 => 118 | 59 => 130 | 60 => 120 | 20 => 20 | 61 => 131 | 65 => 141 | 66 => 142 | 67 => 102 | n => n, fun | 0 => 0 | 1 => 1 | 2 => 4 | 3 => 6 | 4 => 7 | n => n⟩
theorem Tryz.laysPu14 : Go.Proofs.LaysPu.n14 Tryz.prog Tryz.laysPu14_ren := {
  mixed := by kernel_rfl
  f14 := Tryz.func45.trans (congrArg some (by kernel_rfl))
  f16 := Tryz.func66.trans (congrArg some (by kernel_rfl))
  f17 := Tryz.func67.trans (congrArg some (by kernel_rfl))
  f19 := Tryz.func90.trans (congrArg some (by kernel_rfl))
  f20 := Tryz.func91.trans (congrArg some (by kernel_rfl))
  f21 := Tryz.func92.trans (congrArg some (by kernel_rfl))
  f22 := Tryz.func93.trans (congrArg some (by kernel_rfl))
  f23 := Tryz.func94.trans (congrArg some (by kernel_rfl))
  f24 := Tryz.func95.trans (congrArg some (by kernel_rfl))
  f25 := Tryz.func105.trans (congrArg some (by kernel_rfl))
  f26 := Tryz.func106.trans (congrArg some (by kernel_rfl))
  f27 := Tryz.func107.trans (congrArg some (by kernel_rfl))
  f28 := Tryz.func114.trans (congrArg some (by kernel_rfl))
  f29 := Tryz.func117.trans (congrArg some (by kernel_rfl))
  f30 := Tryz.func98.trans (congrArg some (by kernel_rfl))
  f31 := Tryz.func99.trans (congrArg some (by kernel_rfl))
  f32 := Tryz.func100.trans (congrArg some (by kernel_rfl))
  f33 := Tryz.func101.trans (congrArg some (by kernel_rfl))
  f34 := Tryz.func108.trans (congrArg some (by kernel_rfl))
  f35 := Tryz.func97.trans (congrArg some (by kernel_rfl))
  f36 := Tryz.func109.trans (congrArg some (by kernel_rfl))
  f37 := Tryz.func110.trans (congrArg some (by kernel_rfl))
  f38 := Tryz.func111.trans (congrArg some (by kernel_rfl))
  f39 := Tryz.func115.trans (congrArg some (by kernel_rfl))
  f40 := Tryz.func116.trans (congrArg some (by kernel_rfl))
  t0 := Tryz.underlying0
  a0 := Tryz.isAgg0
  z0 := Tryz.sizeOf0
  v0 := Tryz.zeroValue0
  i0 := by kernel_rfl
  t2 := Tryz.underlying2
  a2 := Tryz.isAgg2
  z2 := Tryz.sizeOf2
  v2 := Tryz.zeroValue2
  i2 := by kernel_rfl
  t3 := Tryz.underlying3
  a3 := Tryz.isAgg3
  z3 := Tryz.sizeOf3
  v3 := Tryz.zeroValue3
  i3 := by kernel_rfl
  t4 := Tryz.underlying4
  a4 := Tryz.isAgg4
  z4 := Tryz.sizeOf4
  v4 := Tryz.zeroValue4
  i4 := by kernel_rfl
  t5 := Tryz.underlying5
  a5 := Tryz.isAgg5
  z5 := Tryz.sizeOf5
  v5 := Tryz.zeroValue5
  i5 := by kernel_rfl
  t9 := Tryz.underlying9
  a9 := Tryz.isAgg9
  z9 := Tryz.sizeOf9
  v9 := Tryz.zeroValue9
  i9 := by kernel_rfl
  t20 := Tryz.underlying20
  a20 := Tryz.isAgg20
  z20 := Tryz.sizeOf20
  v20 := Tryz.zeroValue20
  i20 := by kernel_rfl
  t21 := Tryz.underlying21
  a21 := Tryz.isAgg21
  z21 := Tryz.sizeOf21
  v21 := Tryz.zeroValue21
  i21 := by kernel_rfl
  t22 := Tryz.underlying44
  a22 := Tryz.isAgg44
  z22 := Tryz.sizeOf44
  v22 := Tryz.zeroValue44
  i22 := by kernel_rfl
  t24 := Tryz.underlying59
  a24 := Tryz.isAgg59
  z24 := Tryz.sizeOf59
  v24 := Tryz.zeroValue59
  i24 := by kernel_rfl
  t25 := Tryz.underlying60
  a25 := Tryz.isAgg60
  z25 := Tryz.sizeOf60
  v25 := Tryz.zeroValue60
  i25 := by kernel_rfl
  t34 := Tryz.underlying109
  a34 := Tryz.isAgg109
  z34 := Tryz.sizeOf109
  v34 := Tryz.zeroValue109
  i34 := by kernel_rfl
  c34 := by kernel_rfl
  t36 := Tryz.underlying92
  a36 := Tryz.isAgg92
  z36 := Tryz.sizeOf92
  v36 := Tryz.zeroValue92
  i36 := by kernel_rfl
  t37 := Tryz.underlying57
  a37 := Tryz.isAgg57
  z37 := Tryz.sizeOf57
  v37 := Tryz.zeroValue57
  i37 := by kernel_rfl
  t39 := Tryz.underlying112
  a39 := Tryz.isAgg112
  z39 := Tryz.sizeOf112
  v39 := Tryz.zeroValue112
  i39 := by kernel_rfl
  t44 := Tryz.underlying126
  a44 := Tryz.isAgg126
  z44 := Tryz.sizeOf126
  v44 := Tryz.zeroValue126
  i44 := by kernel_rfl
  t47 := Tryz.underlying123
  a47 := Tryz.isAgg123
  z47 := Tryz.sizeOf123
  v47 := Tryz.zeroValue123
  i47 := by kernel_rfl
  t48 := Tryz.underlying136
  a48 := Tryz.isAgg136
  z48 := Tryz.sizeOf136
  v48 := Tryz.zeroValue136
  i48 := by kernel_rfl
  t50 := Tryz.underlying138
  a50 := Tryz.isAgg138
  z50 := Tryz.sizeOf138
  v50 := Tryz.zeroValue138
  i50 := by kernel_rfl
  t52 := Tryz.underlying116
  a52 := Tryz.isAgg116
  z52 := Tryz.sizeOf116
  v52 := Tryz.zeroValue116
  i52 := by kernel_rfl
  t55 := Tryz.underlying118
  a55 := Tryz.isAgg118
  z55 := Tryz.sizeOf118
  v55 := Tryz.zeroValue118
  i55 := by kernel_rfl
  t59 := Tryz.underlying130
  a59 := Tryz.isAgg130
  z59 := Tryz.sizeOf130
  v59 := Tryz.zeroValue130
  i59 := by kernel_rfl
  t60 := Tryz.underlying120
  a60 := Tryz.isAgg120
  z60 := Tryz.sizeOf120
  v60 := Tryz.zeroValue120
  i60 := by kernel_rfl
  t61 := Tryz.underlying131
  a61 := Tryz.isAgg131
  z61 := Tryz.sizeOf131
  t65 := Tryz.underlying141
  a65 := Tryz.isAgg141
  z65 := Tryz.sizeOf141
  v65 := Tryz.zeroValue141
  i65 := by kernel_rfl
  t66 := Tryz.underlying142
  a66 := Tryz.isAgg142
  z66 := Tryz.sizeOf142
  v66 := Tryz.zeroValue142
  i66 := by kernel_rfl
  t67 := Tryz.underlying102
  a67 := Tryz.isAgg102
  z67 := Tryz.sizeOf102
  v67 := Tryz.zeroValue102
  i67 := by kernel_rfl
  g0 := by kernel_rfl
  m0 := by kernel_rfl
  g1 := by kernel_rfl
  m1 := by kernel_rfl
  g2 := by kernel_rfl
  m2 := by kernel_rfl
  g3 := by kernel_rfl
  m3 := by kernel_rfl
  g4 := by kernel_rfl
  m4 := by kernel_rfl }

end Go.Proofs
namespace Go.Proofs.YtooonjcpdbbniaaGreatDoor
open Go.RowKit Go.Shelf Go.Sort
theorem reverse_any (blk off cap : Nat) (zs : List (List UInt8)) (w : World) (hH : Holds encStr w blk off zs.toArray) (hsz : zs.length ≤ 9223372036854775807) :
    Calls Tryz.prog 49 #[.slice (some ⟨blk, off, none⟩) zs.length cap] w fun e w' => e = .returned (.tuple #[]) ∧ ∃ n, w' = putRow encStr (Sort.ahead w n) blk off zs.reverse.toArray :=
  Any.slices_Reverse_string Tryz.lays217 blk off cap zs w hH hsz
theorem parse_any (s : ByteArray) (w : World) (hl : s.size ≤ 18) (hn : s.data.toList ≠ []) (h : ∀ c ∈ s.data.toList, figB c = true) :
    Calls Tryz.prog 45 #[.string s, .int .i64 10, .int .i64 64] w fun e w' => e = .returned (.tuple #[.int .u64 (valT s.data.toList : Nat), .nilIface]) ∧ (w' = w ∨ w' = Lib.bytesWorld w (Tryz.laysPu14_ren.t 5) s) :=
  Any.strconv_ParseUint_10_at64_ok Tryz.laysPu14 s (by omega) _ (parse_figs h hn (by simpa using hl)) w
end Go.Proofs.YtooonjcpdbbniaaGreatDoor
