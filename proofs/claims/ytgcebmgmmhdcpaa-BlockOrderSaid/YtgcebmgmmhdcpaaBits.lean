/- Laws of math/bits that the layers call: Add64, Sub64, Mul64. -/
import Derived.Test.YtgcebmgmmhdcpaaBase
import Derived.Laws.Externs
import Derived.Shelf.Bits.Mul64
import Derived.Shelf.Strconv.Itoa0
namespace Go.Proofs
open Go.Shelf
def Try.lays129_ren : Go.Shelf.Ren := ⟨fun | 129 => 48 | n => n, fun | 53 => 72 | 3 => 3 | 4 => 4 | 46 => 69 | 5 => 5 | 9 => 9 | n => n, fun | n => n⟩
theorem Try.lays129 : Go.Proofs.Lays.n129 Try.prog Try.lays129_ren := {
  mixed := by kernel_rfl
  f129 := Try.func48.trans (congrArg some (by kernel_rfl))
  t3 := Try.underlying3
  a3 := Try.isAgg3
  z3 := Try.sizeOf3
  v3 := Try.zeroValue3
  t4 := Try.underlying4
  a4 := Try.isAgg4
  z4 := Try.sizeOf4
  v4 := Try.zeroValue4
  t5 := Try.underlying5
  a5 := Try.isAgg5
  z5 := Try.sizeOf5
  v5 := Try.zeroValue5
  t9 := Try.underlying9
  a9 := Try.isAgg9
  z9 := Try.sizeOf9
  v9 := Try.zeroValue9
  t46 := Try.underlying69
  a46 := Try.isAgg69
  z46 := Try.sizeOf69
  v46 := Try.zeroValue69
  t53 := Try.underlying72
  a53 := Try.isAgg72
  z53 := Try.sizeOf72
  v53 := Try.zeroValue72 }
def Try.lays264_ren : Go.Shelf.Ren := ⟨fun | 264 => 49 | n => n, fun | 53 => 72 | 46 => 69 | n => n, fun | n => n⟩
theorem Try.lays264 : Go.Proofs.Lays.n264 Try.prog Try.lays264_ren := {
  mixed := by kernel_rfl
  f264 := Try.func49.trans (congrArg some (by kernel_rfl))
  t46 := Try.underlying69
  a46 := Try.isAgg69
  z46 := Try.sizeOf69
  v46 := Try.zeroValue69
  t53 := Try.underlying72
  a53 := Try.isAgg72
  z53 := Try.sizeOf72
  v53 := Try.zeroValue72 }
end Go.Proofs
namespace Go.Proofs.Ytgcebmgmmhdcpaa
open Go.RowKit Go.Shelf

theorem mul64_any (x y : Nat) (hx : x < W64) (hy : y < W64) (w : World) :
    Calls Try.prog 49 #[.int .u64 x, .int .u64 y] w fun e w' => e = .returned (.tuple #[.int .u64 ((x * y / W64 : Nat) : Int), .int .u64 ((x * y % W64 : Nat) : Int)]) ∧ w = w' :=
  (Any.bits_Mul64 Try.lays264 x y hx hy w).mono fun _ _ ⟨h, h'⟩ => ⟨h, h'.symm⟩

theorem run_Add64 (x y c : Nat) (hc : c ≤ 1) (w : World) :
    (callFunc 50 #[.int .u64 x, .int .u64 y, .int .u64 c]).run Try.prog w = .ok (.value (.tuple #[.int .u64 (((x + y + c) % W64 : Nat) : Int), .int .u64 (((x + y + c) / W64 : Nat) : Int)])) w := by
  rw [run_callFunc_extern Try.func50 (by kernel_rfl) (by kernel_rfl) (by kernel_rfl) (e := add64Entry) (by kernel_rfl), run_add64 x y c (by omega) (by omega) (by omega) (by omega)]
  simp only [Result.andThen, W64]
  congr 5 <;> omega


theorem bitLenAux_bl (f x : Nat) (h : x < 2 ^ f) : Lib.bitLenAux f x = bl x := by
  induction f generalizing x with
  | zero => have : x = 0 := by simpa using h
            subst this; rw [bl_zero]; rfl
  | succ f ih =>
    unfold Lib.bitLenAux
    split
    · rename_i h0; subst h0; exact bl_zero.symm
    · rename_i h0
      rw [bl_pos h0, ih _ (by rw [Nat.pow_succ] at h; omega)]; omega
theorem len64_any (x : Nat) (hx : x < W64) (w : World) :
    Calls Try.prog 48 #[.int .u64 x] w fun e w' => e = .returned (.int .i64 (bl x : Nat)) ∧ w = w' :=
  (Any.bits_Len64 Try.lays129 (x : Int) w (by omega) (by rw [W64] at hx; omega)).mono fun _ _ ⟨h, h'⟩ => ⟨by rw [h, Int.toNat_natCast, Lib.bitLen, bitLenAux_bl 64 x hx], h'.symm⟩
theorem mul64_ex (x y hi lo : Nat) (hx : x < W64) (hy : y < W64) (h1 : hi = x * y / W64) (h2 : lo = x * y % W64) (w : World) :
    Calls Try.prog 49 #[.int .u64 x, .int .u64 y] w fun e w' => e = .returned (.tuple #[.int .u64 (hi : Int), .int .u64 (lo : Int)]) ∧ w = w' := by
  subst h1 h2; exact mul64_any x y hx hy w
theorem run_Add64_ex (x y c s k : Nat) (ci : Int) (hci : ci = c) (hc : c ≤ 1) (hs : s = (x + y + c) % W64) (hk : k = (x + y + c) / W64) (w : World) :
    (callFunc 50 #[.int .u64 x, .int .u64 y, .int .u64 ci]).run Try.prog w = .ok (.value (.tuple #[.int .u64 (s : Int), .int .u64 (k : Int)])) w := by
  subst hci hs hk; exact run_Add64 x y c hc w
end Go.Proofs.Ytgcebmgmmhdcpaa
