/- Walks of the reference's sums, differences and products, by figures of 32 bits. -/
import Derived.Test.YtooonjcpdbbniaaDoorApp
import Derived.Test.YtooonjcpdbbniaaDoorMath
import Derived.Deep.RegionLaw
import Derived.Maps.AppendAt
import Derived.Deep.DeepMust
import Derived.Test.YtooonjcpdbbniaaDoorBase
import Derived.Laws.Externs
import Derived.Shelf.Bits.Mul64
import Derived.Shelf.Strconv.Itoa0
namespace Go.Proofs.YtooonjcpdbbniaaDoor
open Go.RowKit

theorem run_max_nat {P : Program} (t : Array TypeId) (y : TypeId) (W : World) (a b : Nat) : (Builtin.max_ t y #[.int .i64 a, .int .i64 b]).run P W = .ok (.int .i64 ((max a b : Nat) : Int)) W := by
  rcases Nat.le_total a b with h | h
  · rw [Nat.max_eq_right h]
    by_cases e : a = b
    · subst e; simp [Builtin.max_, Builtin.max2]
    · have : (a : Int) < b := by omega
      simp [Builtin.max_, Builtin.max2, this]
  · rw [Nat.max_eq_left h]
    have : ¬ (a : Int) < b := by omega
    simp [Builtin.max_, Builtin.max2, this]

theorem hide64 (n : Nat) (h : n < W64) : ((n : Nat) : Int) ≤ 18446744073709551615 := by unfold W64 at h; omega
theorem hmod (n : Nat) : ((n : Nat) : Int) % 4294967296 = ((n % H32 : Nat) : Int) := by unfold H32; omega
theorem hdiv (n : Nat) : ((n : Nat) : Int) / 4294967296 = ((n / H32 : Nat) : Int) := by unfold H32; omega

theorem us_append (a b : List Nat) : us (a ++ b) = us a ++ us b := by simp [us]
end Go.Proofs.YtooonjcpdbbniaaDoor
namespace Go.Proofs.YtooonjcpdbbniaaDoor
open Go.RowKit

/-- a slice that reads as figures of 32 bits -/
def IsH (w : World) (v : Value) (l : List Nat) : Prop := IsL w v l ∧ Bh l
theorem IsL.bd {w : World} {v : Value} {l : List Nat} (h : IsL w v l) : Bd l := by obtain ⟨_, _, _, _, _, h, _⟩ := h; exact h
theorem hbound {l : List Nat} (h : Bh l) (i : Nat) : ((lat l i : Nat) : Int) ≤ 4294967295 := by have := h.lat i; unfold H32 at this; omega

end Go.Proofs.YtooonjcpdbbniaaDoor
namespace Go.Proofs.YtooonjcpdbbniaaDoor
open Go.RowKit

theorem new_cell (w : World) (t : TypeId) (u : Value) : (w.alloc (.cells #[u] t)).cell? ⟨w.heap.size, 0, none⟩ = some u := by rw [World.cell?_alloc_at _ _ _ _ rfl]; rfl
theorem own_drewN {w : World} {base : Nat} {e : TypeId} {size : Nat} {v : Value} {n : Nat} {xs : List Value} (h : w.ownsRow base e size v n xs) (k : Nat) : (w.drewN k).ownsRow base e size v n xs := h
theorem IsL.drewN {w : World} {v : Value} {l : List Nat} (h : IsL w v l) (n : Nat) : IsL (w.drewN n) v l := h.below (below_drewN (Below.refl _ _) n)
end Go.Proofs.YtooonjcpdbbniaaDoor
namespace Go.Proofs
open Go.Shelf
def Tryd.lays129_ren : Go.Shelf.Ren := ⟨fun | 129 => 75 | n => n, fun | 53 => 57 | 3 => 3 | 4 => 4 | 46 => 91 | 5 => 5 | 9 => 9 | n => n, fun | n => n⟩
theorem Tryd.lays129 : Go.Proofs.Lays.n129 Tryd.prog Tryd.lays129_ren := {
  mixed := by kernel_rfl
  f129 := Tryd.func75.trans (congrArg some (by kernel_rfl))
  t3 := Tryd.underlying3
  a3 := Tryd.isAgg3
  z3 := Tryd.sizeOf3
  v3 := Tryd.zeroValue3
  t4 := Tryd.underlying4
  a4 := Tryd.isAgg4
  z4 := Tryd.sizeOf4
  v4 := Tryd.zeroValue4
  t5 := Tryd.underlying5
  a5 := Tryd.isAgg5
  z5 := Tryd.sizeOf5
  v5 := Tryd.zeroValue5
  t9 := Tryd.underlying9
  a9 := Tryd.isAgg9
  z9 := Tryd.sizeOf9
  v9 := Tryd.zeroValue9
  t46 := Tryd.underlying91
  a46 := Tryd.isAgg91
  z46 := Tryd.sizeOf91
  v46 := Tryd.zeroValue91
  t53 := Tryd.underlying57
  a53 := Tryd.isAgg57
  z53 := Tryd.sizeOf57
  v53 := Tryd.zeroValue57 }
def Tryd.lays264_ren : Go.Shelf.Ren := ⟨fun | 264 => 43 | n => n, fun | 53 => 57 | 46 => 91 | n => n, fun | n => n⟩
theorem Tryd.lays264 : Go.Proofs.Lays.n264 Tryd.prog Tryd.lays264_ren := {
  mixed := by kernel_rfl
  f264 := Tryd.func43.trans (congrArg some (by kernel_rfl))
  t46 := Tryd.underlying91
  a46 := Tryd.isAgg91
  z46 := Tryd.sizeOf91
  v46 := Tryd.zeroValue91
  t53 := Tryd.underlying57
  a53 := Tryd.isAgg57
  z53 := Tryd.sizeOf57
  v53 := Tryd.zeroValue57 }
end Go.Proofs
namespace Go.Proofs.YtooonjcpdbbniaaDoor
open Go.RowKit Go.Shelf

theorem mul64_any (x y : Nat) (hx : x < W64) (hy : y < W64) (w : World) :
    Calls Tryd.prog 43 #[.int .u64 x, .int .u64 y] w fun e w' => e = .returned (.tuple #[.int .u64 ((x * y / W64 : Nat) : Int), .int .u64 ((x * y % W64 : Nat) : Int)]) ∧ w = w' :=
  (Any.bits_Mul64 Tryd.lays264 x y hx hy w).mono fun _ _ ⟨h, h'⟩ => ⟨h, h'.symm⟩

theorem run_Add64 (x y c : Nat) (hc : c ≤ 1) (w : World) :
    (callFunc 40 #[.int .u64 x, .int .u64 y, .int .u64 c]).run Tryd.prog w = .ok (.value (.tuple #[.int .u64 (((x + y + c) % W64 : Nat) : Int), .int .u64 (((x + y + c) / W64 : Nat) : Int)])) w := by
  rw [run_callFunc_extern Tryd.func40 (by kernel_rfl) (by kernel_rfl) (by kernel_rfl) (e := add64Entry) (by kernel_rfl), run_add64 x y c (by omega) (by omega) (by omega) (by omega)]
  simp only [Result.andThen, W64]
  congr 5 <;> omega


theorem run_Sub64 (x y c : Nat) (hc : c ≤ 1) (w : World) :
    (callFunc 42 #[.int .u64 x, .int .u64 y, .int .u64 c]).run Tryd.prog w = .ok (.value (.tuple #[.int .u64 (((x + W64 - y - c) % W64 : Nat) : Int), .int .u64 ((if x < y + c then 1 else 0 : Nat) : Int)])) w := by
  rw [run_callFunc_extern Tryd.func42 (by kernel_rfl) (by kernel_rfl) (by kernel_rfl) (e := fun args => do
    let (x, y, b) ← Extern.MathBitsCarry.three "Sub64" args
    pure (Extern.MathBitsCarry.pair ((x + Extern.MathBitsCarry.m64 - y - b) % Extern.MathBitsCarry.m64) (if x < y + b then 1 else 0))) (by kernel_rfl)]
  have : c = 0 ∨ c = 1 := by omega
  rcases this with rfl | rfl <;> rfl
theorem bitLenAux_bl (f x : Nat) (h : x < 2 ^ f) : Lib.bitLenAux f x = bl x := by
  induction f generalizing x with
  | zero => have : x = 0 := by simpa using h
            subst this; rw [bl_zero]; rfl
  | succ f ih =>
    unfold Lib.bitLenAux
    split
    · rename_i h0; subst h0; exact bl_zero.symm
    · rename_i h0
      rw [bl_pos h0, ih _ (by rw [Nat.pow_succ] at h; omega)]; omega
theorem len64_any (x : Nat) (hx : x < W64) (w : World) :
    Calls Tryd.prog 75 #[.int .u64 x] w fun e w' => e = .returned (.int .i64 (bl x : Nat)) ∧ w = w' :=
  (Any.bits_Len64 Tryd.lays129 (x : Int) w (by omega) (by rw [W64] at hx; omega)).mono fun _ _ ⟨h, h'⟩ => ⟨by rw [h, Int.toNat_natCast, Lib.bitLen, bitLenAux_bl 64 x hx], h'.symm⟩
theorem mul64_ex (x y hi lo : Nat) (hx : x < W64) (hy : y < W64) (h1 : hi = x * y / W64) (h2 : lo = x * y % W64) (w : World) :
    Calls Tryd.prog 43 #[.int .u64 x, .int .u64 y] w fun e w' => e = .returned (.tuple #[.int .u64 (hi : Int), .int .u64 (lo : Int)]) ∧ w = w' := by
  subst h1 h2; exact mul64_any x y hx hy w
theorem run_Add64_ex (x y c s k : Nat) (ci : Int) (hci : ci = c) (hc : c ≤ 1) (hs : s = (x + y + c) % W64) (hk : k = (x + y + c) / W64) (w : World) :
    (callFunc 40 #[.int .u64 x, .int .u64 y, .int .u64 ci]).run Tryd.prog w = .ok (.value (.tuple #[.int .u64 (s : Int), .int .u64 (k : Int)])) w := by
  subst hci hs hk; exact run_Add64 x y c hc w
end Go.Proofs.YtooonjcpdbbniaaDoor
namespace Go.Proofs.YtooonjcpdbbniaaDoor
open Go.RowKit

set_option maxHeartbeats 400000 in
theorem rbits_any (v : Value) (a : Nat) (w : World) (h : IsN w v a) (hl : (limbs a).length ≤ 1000000) :
    Calls Tryd.prog 19 #[v] w fun e w' => e = .returned (.int .i64 (bl a : Nat)) ∧ w = w' := by
  obtain ⟨A, c, rfl, hlc, hc, hbd, hr⟩ := h
  have hrt := limbs_rt a
  have hnum := num_limbs a
  generalize limbs a = l at *
  subst hnum
  by_cases h0 : l = []
  · subst h0
    go_enter Tryd.func19, Tryd.ntmps19
    go_wp2
    go_ret
    exact ⟨ret_int (by rw [num, bl_zero]; rfl), rfl⟩
  · have hp : 0 < l.length := List.length_pos_iff.2 h0
    obtain ⟨ad, rfl, _, hx⟩ := us_cell hr (k := l.length - 1) (by omega)
    have e := Lib.hid (bl_num hbd hrt h0)
    have hb64 := bl_le_iff.2 (show lat l (l.length - 1) < 2 ^ 64 from hbd.lat _)
    have e1 : ((l.length : Int) == 0) = false := by simp [h0]
    clear h0 hrt
    go_enter Tryd.func19, Tryd.ntmps19
    go_wp2
    go_loop [3, 4] (fun n t => ∃ (k x : Nat), n = .int .i64 (64 * ((l.length : Int) - 1) + (k : Int)) ∧ t = .int .u64 (x : Int) ∧ (x : Int) ≤ 18446744073709551615 ∧ k ≤ 64 ∧ Hid (k + bl x = bl (lat l (l.length - 1)))) (fun _ t => (intOf t).toNat)
    case atStart => exact ⟨0, lat l (l.length - 1), by simp, rfl, by have := hbd.lat (l.length - 1); unfold W64 at this; omega, by omega, Lib.hid (by omega)⟩
    case round =>
      obtain ⟨k, x, rfl, rfl, hxb, hk, hkx⟩ := hrel
      by_cases hx0 : 0 < x
      · have hs : Hid (k + 1 + bl (x / 2) = bl (lat l (l.length - 1))) := by have h1 := hkx.out; have h2 := bl_pos (n := x) (by omega); rw [Hid]; omega
        have hk2 : k + 1 ≤ 64 := by have := hs.out; omega
        go_wp2
        go_round
        case rel => exact ⟨k + 1, x / 2, by go_num, by go_num, by omega, hk2, hs⟩
        case measure => simp [intOf]; omega
      · obtain rfl : x = 0 := by omega
        go_wp2
        go_ret
        have := hkx.out
        rw [bl_zero] at this
        exact ⟨ret_int (by rw [e.out]; omega), rfl⟩
end Go.Proofs.YtooonjcpdbbniaaDoor
namespace Go.Proofs.YtooonjcpdbbniaaDoor
open Go.RowKit
/-- a number of at most k limbs -/
def Sz (n k : Nat) : Prop := (limbs n).length ≤ k
theorem Sz.fin {n k : Nat} (h : Sz n k) (hk : k ≤ 1000000) : (limbs n).length ≤ 1000000 := Nat.le_trans h hk
theorem Sz.add {a b k m : Nat} (ha : Sz a k) (hb : Sz b m) : Sz (a + b) (k + m + 1) := by
  unfold Sz at *; have := limbs_len_add a b; omega
theorem Sz.mul {a b k m : Nat} (ha : Sz a k) (hb : Sz b m) : Sz (a * b) (k + m) := by
  unfold Sz at *; have := limbs_len_mul a b; omega
theorem Sz.sub {a b k : Nat} (ha : Sz a k) : Sz (a - b) k := Nat.le_trans (limbs_len_mono (Nat.sub_le a b)) ha
theorem Sz.le {a b k : Nat} (ha : Sz a k) (h : b ≤ a) : Sz b k := Nat.le_trans (limbs_len_mono h) ha
theorem Sz.more {a k m : Nat} (ha : Sz a k) (h : k ≤ m) : Sz a m := Nat.le_trans ha h
theorem Sz.zero : Sz 0 0 := by unfold Sz; rw [limbs_zero]; simp
theorem Sz.one : Sz 1 1 := by unfold Sz; rw [limbs_single (by omega) (by unfold W64; omega)]; simp
theorem Sz.pow {n k : Nat} (h : n < W64 ^ k) : Sz n k := limbs_len_le h
theorem Sz.two_pow (n : Nat) : Sz (2 ^ n) (n / 64 + 1) := by
  apply Sz.pow; rw [W64_pow]; exact Nat.pow_lt_pow_right (by omega) (by omega)
theorem Sz.bl {n k : Nat} (h : Sz n k) : bl n ≤ 64 * k := by
  rw [bl_le_iff, ← W64_pow]; exact lt_of_limbs_len h
theorem Sz.u64 {n : Nat} (h : n < W64) : Sz n 1 := Sz.pow (by rwa [Nat.pow_one])

set_option maxHeartbeats 400000 in
theorem rsame_any (va vb : Value) (a b : Nat) (w : World) (ha : IsN w va a) (hb : IsN w vb b) :
    Calls Tryd.prog 26 #[va, vb] w fun e w' => e = .returned (.bool (decide (a = b))) ∧ ∃ n, w' = w.drewN n := by
  have C := rcmp_any va vb _ _ w ha hb
  rw [cmpL_limbs] at C
  have C' := Lib.hid C
  clear C
  go_enter Tryd.func26, Tryd.ntmps26
  go_wp2_with fail
  refine C'.out.mono ?_
  rintro e w1 ⟨rfl, n, rfl⟩
  go_wp2
  go_ret
  refine ⟨ret_bool ?_, n, rfl⟩
  rw [Bool.eq_iff_iff, beq_iff_eq, decide_eq_true_iff, cmpI_zero]
  omega
theorem IsN.open_ {w : World} {v : Value} {n : Nat} (h : IsN w v n) : ∃ A m c, v = .slice A m c ∧ m = (limbs n).length := by obtain ⟨A, c, e, _⟩ := h; exact ⟨A, _, c, e, rfl⟩
theorem rcmp_n (va vb : Value) (a b : Nat) (w : World) (ha : IsN w va a) (hb : IsN w vb b) :
    Calls Tryd.prog 44 #[va, vb] w fun e w' => e = .returned (.int .i64 (cmpI a b)) ∧ ∃ n, w' = w.drewN n := by
  have := rcmp_any va vb _ _ w ha hb
  rwa [cmpL_limbs] at this
theorem rright_n (v : Value) (n : Nat) (w : World) (h : IsN w v n) : Calls Tryd.prog 25 #[v] w fun e w' => e = .returned (.bool true) ∧ w = w' := by
  have := rright_any v _ w h
  rwa [decide_eq_true (show limbs n = [] ∨ lat (limbs n) ((limbs n).length - 1) ≠ 0 from limbs_rt n)] at this

end Go.Proofs.YtooonjcpdbbniaaDoor
