/- Walks of the reference's sums, differences and products, by figures of 32 bits. -/
import Derived.Test.YtbnnonmkkkhepaaRef1
import Derived.Test.YtbnnonmkkkhepaaArr
import Derived.Test.YtbnnonmkkkhepaaMath3
import Derived.Deep.RegionLaw
import Derived.Maps.AppendAt
import Derived.Deep.DeepMust
namespace Go.Proofs.Ytbnnonmkkkhepaa
open Go.RowKit

theorem run_max_nat {P : Program} (t : Array TypeId) (y : TypeId) (W : World) (a b : Nat) : (Builtin.max_ t y #[.int .i64 a, .int .i64 b]).run P W = .ok (.int .i64 ((max a b : Nat) : Int)) W := by
  rcases Nat.le_total a b with h | h
  · rw [Nat.max_eq_right h]
    by_cases e : a = b
    · subst e; simp [Builtin.max_, Builtin.max2]
    · have : (a : Int) < b := by omega
      simp [Builtin.max_, Builtin.max2, this]
  · rw [Nat.max_eq_left h]
    have : ¬ (a : Int) < b := by omega
    simp [Builtin.max_, Builtin.max2, this]

theorem hide64 (n : Nat) (h : n < W64) : ((n : Nat) : Int) ≤ 18446744073709551615 := by unfold W64 at h; omega
theorem hmod (n : Nat) : ((n : Nat) : Int) % 4294967296 = ((n % H32 : Nat) : Int) := by unfold H32; omega
theorem hdiv (n : Nat) : ((n : Nat) : Int) / 4294967296 = ((n / H32 : Nat) : Int) := by unfold H32; omega

theorem us_append (a b : List Nat) : us (a ++ b) = us a ++ us b := by simp [us]
set_option maxHeartbeats 1000000 in
theorem halves_any (v : Value) (l : List Nat) (w : World) (h : IsL w v l) (hl : l.length ≤ 1000000) :
    Calls Try.prog 51 #[v] w fun e w' => ∃ v', e = .returned v' ∧ IsL w' v' (hv l) ∧ Below w.heap.size w w' := by
  obtain ⟨A, c, rfl, hlc, hc, hbd, hr⟩ := h
  have hmx : Try.prog.follows .mixedOrders = true := by kernel_rfl
  obtain ⟨i0, hi, hz0, hz1, hz2⟩ := info_parts info_u64
  have hown0 := World.ownsRow_lit w #[] 0 (base := w.heap.size) (e := 84) (size := 1) (Nat.le_refl _) (by unfold maxLen; omega) rfl
  go_enter Try.func51, Try.ntmps51
  go_wp2
  go_loopw [3, 4] (fun o i wr => ∃ (k : Nat) (l' : List Nat), k ≤ l.length ∧ i = .int .i64 k ∧ Hid (l' = hv (l.take k)) ∧ l'.length ≤ 2 * k ∧ wr.ownsRow w.heap.size 84 1 o l'.length (us l') ∧ Below w.heap.size w wr) (fun _ i _ => l.length - (intOf i).toNat)
  case atStart => exact ⟨0, [], Nat.zero_le _, rfl, Lib.hid rfl, Nat.le_refl _, hown0, (Below.refl _ w).alloc (Nat.le_refl _) _⟩
  case round =>
    obtain ⟨k, l', hk, rfl, hl', hll, hown, hB⟩ := hrel
    by_cases hlt : k < l.length
    · obtain ⟨ad, rfl, _, hx⟩ := us_cell (hr.below hB) hlt
      have hx64 := hide64 _ (hbd.lat k)
      obtain ⟨x, ex⟩ : ∃ x, x = lat l k := ⟨_, rfl⟩
      rw [← ex] at hx hx64
      have Hs : Hid (hv (l.take (k + 1)) = l' ++ [x % H32, x / H32]) := by rw [Hid, hv_take_succ l k hlt, hl'.out, ex]
      obtain ⟨q, eq⟩ : ∃ q, q = x / H32 := ⟨_, rfl⟩
      obtain ⟨r, er⟩ : ∃ r, r = x % H32 := ⟨_, rfl⟩
      rw [← eq, ← er] at Hs
      have t1 : ((x : Nat) : Int).tmod 4294967296 = (r : Int) := by rw [Int.tmod_eq_emod_of_nonneg (by omega), hmod, er]
      have t2 : IntKind.u64.wrap (((x : Nat) : Int) / 4294967296) = (q : Int) := by rw [hdiv, ← eq, IntKind.wrap_u64]; unfold H32 at eq; omega
      clear ex eq er
      go_wp2
      go_region_law (refine step_append_any _ rfl (.tmp 12) (.tmp 23) _ rfl w.heap.size 84 i0 _ 1 8 Try.underlying35 hi hz0 hz1 hz2 rfl (by omega) _ _ _ rfl (hown.drew.alloc _) (wr.heap.size + 1) (some ⟨wr.heap.size, 0, none⟩) 2 2 (us [r, q]) rfl (by exact Reads.fresh wr.drew _ _ 2 rfl) (us_one _) (by unfold maxLen; omega) (by omega) (by simp; exact Nat.le_succ_of_le hB.size) ?_; intro v' w1 hown' hgrow hat)
      all_goals
        go_wp2
        refine ⟨⟨k + 1, l' ++ [r, q], by omega, by go_num, by rw [Hid]; exact Hs.out.symm, by simp; omega, by rw [us_append, List.length_append]; exact hown', ?_⟩, by simp [intOf]; omega⟩
        exact ((hB.drew).alloc hB.size _).grown hgrow (by simp; exact Nat.le_succ_of_le hB.size) (fun j e => (hown.lt j e).1)
    · obtain rfl : k = l.length := by omega
      go_wp2
      go_ret
      have e := hl'.out
      rw [List.take_length] at e
      exact ⟨_, rfl, e ▸ IsL.of_own hown (e ▸ (hv_bh l hbd).bd), hB⟩
end Go.Proofs.Ytbnnonmkkkhepaa
