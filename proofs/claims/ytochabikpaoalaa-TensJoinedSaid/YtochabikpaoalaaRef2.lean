/- Walks of the reference's sums, differences and products, by figures of 32 bits. -/
import Derived.Test.YtochabikpaoalaaApp
import Derived.Test.YtochabikpaoalaaMath
import Derived.Deep.RegionLaw
import Derived.Maps.AppendAt
import Derived.Deep.DeepMust
import Derived.Test.YtochabikpaoalaaBase
import Derived.Laws.Externs
import Derived.Shelf.Bits.Mul64
import Derived.Shelf.Strconv.Itoa0
namespace Go.Proofs.Ytochabikpaoalaa
open Go.RowKit

theorem run_max_nat {P : Program} (t : Array TypeId) (y : TypeId) (W : World) (a b : Nat) : (Builtin.max_ t y #[.int .i64 a, .int .i64 b]).run P W = .ok (.int .i64 ((max a b : Nat) : Int)) W := by
  rcases Nat.le_total a b with h | h
  · rw [Nat.max_eq_right h]
    by_cases e : a = b
    · subst e; simp [Builtin.max_, Builtin.max2]
    · have : (a : Int) < b := by omega
      simp [Builtin.max_, Builtin.max2, this]
  · rw [Nat.max_eq_left h]
    have : ¬ (a : Int) < b := by omega
    simp [Builtin.max_, Builtin.max2, this]

theorem hide64 (n : Nat) (h : n < W64) : ((n : Nat) : Int) ≤ 18446744073709551615 := by unfold W64 at h; omega
theorem hmod (n : Nat) : ((n : Nat) : Int) % 4294967296 = ((n % H32 : Nat) : Int) := by unfold H32; omega
theorem hdiv (n : Nat) : ((n : Nat) : Int) / 4294967296 = ((n / H32 : Nat) : Int) := by unfold H32; omega

theorem us_append (a b : List Nat) : us (a ++ b) = us a ++ us b := by simp [us]
end Go.Proofs.Ytochabikpaoalaa
namespace Go.Proofs.Ytochabikpaoalaa
open Go.RowKit

/-- a slice that reads as figures of 32 bits -/
def IsH (w : World) (v : Value) (l : List Nat) : Prop := IsL w v l ∧ Bh l
theorem IsL.bd {w : World} {v : Value} {l : List Nat} (h : IsL w v l) : Bd l := by obtain ⟨_, _, _, _, _, h, _⟩ := h; exact h
theorem hbound {l : List Nat} (h : Bh l) (i : Nat) : ((lat l i : Nat) : Int) ≤ 4294967295 := by have := h.lat i; unfold H32 at this; omega

end Go.Proofs.Ytochabikpaoalaa
namespace Go.Proofs.Ytochabikpaoalaa
open Go.RowKit

theorem new_cell (w : World) (t : TypeId) (u : Value) : (w.alloc (.cells #[u] t)).cell? ⟨w.heap.size, 0, none⟩ = some u := by rw [World.cell?_alloc_at _ _ _ _ rfl]; rfl
theorem own_drewN {w : World} {base : Nat} {e : TypeId} {size : Nat} {v : Value} {n : Nat} {xs : List Value} (h : w.ownsRow base e size v n xs) (k : Nat) : (w.drewN k).ownsRow base e size v n xs := h
theorem IsL.drewN {w : World} {v : Value} {l : List Nat} (h : IsL w v l) (n : Nat) : IsL (w.drewN n) v l := h.below (below_drewN (Below.refl _ _) n)
end Go.Proofs.Ytochabikpaoalaa
namespace Go.Proofs
open Go.Shelf
def Try.lays129_ren : Go.Shelf.Ren := ⟨fun | 129 => 62 | n => n, fun | 53 => 92 | 3 => 3 | 4 => 4 | 46 => 89 | 5 => 5 | 9 => 9 | n => n, fun | n => n⟩
theorem Try.lays129 : Go.Proofs.Lays.n129 Try.prog Try.lays129_ren := {
  mixed := by kernel_rfl
  f129 := Try.func62.trans (congrArg some (by kernel_rfl))
  t3 := Try.underlying3
  a3 := Try.isAgg3
  z3 := Try.sizeOf3
  v3 := Try.zeroValue3
  t4 := Try.underlying4
  a4 := Try.isAgg4
  z4 := Try.sizeOf4
  v4 := Try.zeroValue4
  t5 := Try.underlying5
  a5 := Try.isAgg5
  z5 := Try.sizeOf5
  v5 := Try.zeroValue5
  t9 := Try.underlying9
  a9 := Try.isAgg9
  z9 := Try.sizeOf9
  v9 := Try.zeroValue9
  t46 := Try.underlying89
  a46 := Try.isAgg89
  z46 := Try.sizeOf89
  v46 := Try.zeroValue89
  t53 := Try.underlying92
  a53 := Try.isAgg92
  z53 := Try.sizeOf92
  v53 := Try.zeroValue92 }
def Try.lays264_ren : Go.Shelf.Ren := ⟨fun | 264 => 63 | n => n, fun | 53 => 92 | 46 => 89 | n => n, fun | n => n⟩
theorem Try.lays264 : Go.Proofs.Lays.n264 Try.prog Try.lays264_ren := {
  mixed := by kernel_rfl
  f264 := Try.func63.trans (congrArg some (by kernel_rfl))
  t46 := Try.underlying89
  a46 := Try.isAgg89
  z46 := Try.sizeOf89
  v46 := Try.zeroValue89
  t53 := Try.underlying92
  a53 := Try.isAgg92
  z53 := Try.sizeOf92
  v53 := Try.zeroValue92 }
end Go.Proofs
namespace Go.Proofs.Ytochabikpaoalaa
open Go.RowKit Go.Shelf

theorem mul64_any (x y : Nat) (hx : x < W64) (hy : y < W64) (w : World) :
    Calls Try.prog 63 #[.int .u64 x, .int .u64 y] w fun e w' => e = .returned (.tuple #[.int .u64 ((x * y / W64 : Nat) : Int), .int .u64 ((x * y % W64 : Nat) : Int)]) ∧ w = w' :=
  (Any.bits_Mul64 Try.lays264 x y hx hy w).mono fun _ _ ⟨h, h'⟩ => ⟨h, h'.symm⟩

theorem run_Add64 (x y c : Nat) (hc : c ≤ 1) (w : World) :
    (callFunc 64 #[.int .u64 x, .int .u64 y, .int .u64 c]).run Try.prog w = .ok (.value (.tuple #[.int .u64 (((x + y + c) % W64 : Nat) : Int), .int .u64 (((x + y + c) / W64 : Nat) : Int)])) w := by
  rw [run_callFunc_extern Try.func64 (by kernel_rfl) (by kernel_rfl) (by kernel_rfl) (e := add64Entry) (by kernel_rfl), run_add64 x y c (by omega) (by omega) (by omega) (by omega)]
  simp only [Result.andThen, W64]
  congr 5 <;> omega


theorem bitLenAux_bl (f x : Nat) (h : x < 2 ^ f) : Lib.bitLenAux f x = bl x := by
  induction f generalizing x with
  | zero => have : x = 0 := by simpa using h
            subst this; rw [bl_zero]; rfl
  | succ f ih =>
    unfold Lib.bitLenAux
    split
    · rename_i h0; subst h0; exact bl_zero.symm
    · rename_i h0
      rw [bl_pos h0, ih _ (by rw [Nat.pow_succ] at h; omega)]; omega
theorem len64_any (x : Nat) (hx : x < W64) (w : World) :
    Calls Try.prog 62 #[.int .u64 x] w fun e w' => e = .returned (.int .i64 (bl x : Nat)) ∧ w = w' :=
  (Any.bits_Len64 Try.lays129 (x : Int) w (by omega) (by rw [W64] at hx; omega)).mono fun _ _ ⟨h, h'⟩ => ⟨by rw [h, Int.toNat_natCast, Lib.bitLen, bitLenAux_bl 64 x hx], h'.symm⟩
theorem mul64_ex (x y hi lo : Nat) (hx : x < W64) (hy : y < W64) (h1 : hi = x * y / W64) (h2 : lo = x * y % W64) (w : World) :
    Calls Try.prog 63 #[.int .u64 x, .int .u64 y] w fun e w' => e = .returned (.tuple #[.int .u64 (hi : Int), .int .u64 (lo : Int)]) ∧ w = w' := by
  subst h1 h2; exact mul64_any x y hx hy w
theorem run_Add64_ex (x y c s k : Nat) (ci : Int) (hci : ci = c) (hc : c ≤ 1) (hs : s = (x + y + c) % W64) (hk : k = (x + y + c) / W64) (w : World) :
    (callFunc 64 #[.int .u64 x, .int .u64 y, .int .u64 ci]).run Try.prog w = .ok (.value (.tuple #[.int .u64 (s : Int), .int .u64 (k : Int)])) w := by
  subst hci hs hk; exact run_Add64 x y c hc w
end Go.Proofs.Ytochabikpaoalaa
namespace Go.Proofs.Ytochabikpaoalaa
open Go.RowKit

end Go.Proofs.Ytochabikpaoalaa
namespace Go.Proofs.Ytochabikpaoalaa
open Go.RowKit
/-- a number of at most k limbs -/
def Sz (n k : Nat) : Prop := (limbs n).length ≤ k
theorem Sz.fin {n k : Nat} (h : Sz n k) (hk : k ≤ 1000000) : (limbs n).length ≤ 1000000 := Nat.le_trans h hk
theorem Sz.add {a b k m : Nat} (ha : Sz a k) (hb : Sz b m) : Sz (a + b) (k + m + 1) := by
  unfold Sz at *; have := limbs_len_add a b; omega
theorem Sz.mul {a b k m : Nat} (ha : Sz a k) (hb : Sz b m) : Sz (a * b) (k + m) := by
  unfold Sz at *; have := limbs_len_mul a b; omega
theorem Sz.sub {a b k : Nat} (ha : Sz a k) : Sz (a - b) k := Nat.le_trans (limbs_len_mono (Nat.sub_le a b)) ha
theorem Sz.le {a b k : Nat} (ha : Sz a k) (h : b ≤ a) : Sz b k := Nat.le_trans (limbs_len_mono h) ha
theorem Sz.more {a k m : Nat} (ha : Sz a k) (h : k ≤ m) : Sz a m := Nat.le_trans ha h
theorem Sz.zero : Sz 0 0 := by unfold Sz; rw [limbs_zero]; simp
theorem Sz.one : Sz 1 1 := by unfold Sz; rw [limbs_single (by omega) (by unfold W64; omega)]; simp
theorem Sz.pow {n k : Nat} (h : n < W64 ^ k) : Sz n k := limbs_len_le h
theorem Sz.two_pow (n : Nat) : Sz (2 ^ n) (n / 64 + 1) := by
  apply Sz.pow; rw [W64_pow]; exact Nat.pow_lt_pow_right (by omega) (by omega)
theorem Sz.bl {n k : Nat} (h : Sz n k) : bl n ≤ 64 * k := by
  rw [bl_le_iff, ← W64_pow]; exact lt_of_limbs_len h
theorem Sz.u64 {n : Nat} (h : n < W64) : Sz n 1 := Sz.pow (by rwa [Nat.pow_one])

theorem IsN.open_ {w : World} {v : Value} {n : Nat} (h : IsN w v n) : ∃ A m c, v = .slice A m c ∧ m = (limbs n).length := by obtain ⟨A, c, e, _⟩ := h; exact ⟨A, _, c, e, rfl⟩
end Go.Proofs.Ytochabikpaoalaa
