/- Walks of the reference's sums, differences and products, by figures of 32 bits. -/
import Derived.Test.YtooonjcpdbbniaaGreatDoorApp
import Derived.Test.YtooonjcpdbbniaaGreatDoorMath
import Derived.Deep.RegionLaw
import Derived.Maps.AppendAt
import Derived.Deep.DeepMust
import Derived.Test.YtooonjcpdbbniaaGreatDoorBase
import Derived.Laws.Externs
import Derived.Shelf.Bits.Mul64
import Derived.Shelf.Strconv.Itoa0
namespace Go.Proofs.YtooonjcpdbbniaaGreatDoor
open Go.RowKit

theorem run_max_nat {P : Program} (t : Array TypeId) (y : TypeId) (W : World) (a b : Nat) : (Builtin.max_ t y #[.int .i64 a, .int .i64 b]).run P W = .ok (.int .i64 ((max a b : Nat) : Int)) W := by
  rcases Nat.le_total a b with h | h
  · rw [Nat.max_eq_right h]
    by_cases e : a = b
    · subst e; simp [Builtin.max_, Builtin.max2]
    · have : (a : Int) < b := by omega
      simp [Builtin.max_, Builtin.max2, this]
  · rw [Nat.max_eq_left h]
    have : ¬ (a : Int) < b := by omega
    simp [Builtin.max_, Builtin.max2, this]

theorem hide64 (n : Nat) (h : n < W64) : ((n : Nat) : Int) ≤ 18446744073709551615 := by unfold W64 at h; omega
theorem hmod (n : Nat) : ((n : Nat) : Int) % 4294967296 = ((n % H32 : Nat) : Int) := by unfold H32; omega
theorem hdiv (n : Nat) : ((n : Nat) : Int) / 4294967296 = ((n / H32 : Nat) : Int) := by unfold H32; omega

theorem us_append (a b : List Nat) : us (a ++ b) = us a ++ us b := by simp [us]
set_option maxHeartbeats 1000000 in
theorem halves_any (v : Value) (l : List Nat) (w : World) (h : IsL w v l) (hl : l.length ≤ 1000000) :
    Calls Tryz.prog 57 #[v] w fun e w' => ∃ v', e = .returned v' ∧ IsL w' v' (hv l) ∧ Below w.heap.size w w' := by
  obtain ⟨A, c, rfl, hlc, hc, hbd, hr⟩ := h
  have hmx : Tryz.prog.follows .mixedOrders = true := by kernel_rfl
  obtain ⟨i0, hi, hz0, hz1, hz2⟩ := info_parts info_u64
  have hown0 := World.ownsRow_lit w #[] 0 (base := w.heap.size) (e := 44) (size := 1) (Nat.le_refl _) (by unfold maxLen; omega) rfl
  go_enter Tryz.func57, Tryz.ntmps57
  go_wp2
  go_loopw [3, 4] (fun o i wr => ∃ (k : Nat) (l' : List Nat), k ≤ l.length ∧ i = .int .i64 k ∧ Hid (l' = hv (l.take k)) ∧ l'.length ≤ 2 * k ∧ wr.ownsRow w.heap.size 44 1 o l'.length (us l') ∧ Below w.heap.size w wr) (fun _ i _ => l.length - (intOf i).toNat)
  case atStart => exact ⟨0, [], Nat.zero_le _, rfl, Lib.hid rfl, Nat.le_refl _, hown0, (Below.refl _ w).alloc (Nat.le_refl _) _⟩
  case round =>
    obtain ⟨k, l', hk, rfl, hl', hll, hown, hB⟩ := hrel
    by_cases hlt : k < l.length
    · obtain ⟨ad, rfl, _, hx⟩ := us_cell (hr.below hB) hlt
      have hx64 := hide64 _ (hbd.lat k)
      obtain ⟨x, ex⟩ : ∃ x, x = lat l k := ⟨_, rfl⟩
      rw [← ex] at hx hx64
      have Hs : Hid (hv (l.take (k + 1)) = l' ++ [x % H32, x / H32]) := by rw [Hid, hv_take_succ l k hlt, hl'.out, ex]
      obtain ⟨q, eq⟩ : ∃ q, q = x / H32 := ⟨_, rfl⟩
      obtain ⟨r, er⟩ : ∃ r, r = x % H32 := ⟨_, rfl⟩
      rw [← eq, ← er] at Hs
      have t1 : ((x : Nat) : Int).tmod 4294967296 = (r : Int) := by rw [Int.tmod_eq_emod_of_nonneg (by omega), hmod, er]
      have t2 : IntKind.u64.wrap (((x : Nat) : Int) / 4294967296) = (q : Int) := by rw [hdiv, ← eq, IntKind.wrap_u64]; unfold H32 at eq; omega
      clear ex eq er
      go_wp2
      go_region_law (refine step_append_any _ rfl (.tmp 12) (.tmp 23) _ rfl w.heap.size 44 i0 _ 1 8 Tryz.underlying22 hi hz0 hz1 hz2 rfl (by omega) _ _ _ rfl (hown.drew.alloc _) (wr.heap.size + 1) (some ⟨wr.heap.size, 0, none⟩) 2 2 (us [r, q]) rfl (by exact Reads.fresh wr.drew _ _ 2 rfl) (us_one _) (by unfold maxLen; omega) (by omega) (by simp; exact Nat.le_succ_of_le hB.size) ?_; intro v' w1 hown' hgrow hat)
      all_goals
        go_wp2
        refine ⟨⟨k + 1, l' ++ [r, q], by omega, by go_num, by rw [Hid]; exact Hs.out.symm, by simp; omega, by rw [us_append, List.length_append]; exact hown', ?_⟩, by simp [intOf]; omega⟩
        exact ((hB.drew).alloc hB.size _).grown hgrow (by simp; exact Nat.le_succ_of_le hB.size) (fun j e => (hown.lt j e).1)
    · obtain rfl : k = l.length := by omega
      go_wp2
      go_ret
      have e := hl'.out
      rw [List.take_length] at e
      exact ⟨_, rfl, e ▸ IsL.of_own hown (e ▸ (hv_bh l hbd).bd), hB⟩
end Go.Proofs.YtooonjcpdbbniaaGreatDoor
namespace Go.Proofs.YtooonjcpdbbniaaGreatDoor
open Go.RowKit

/-- a slice that reads as figures of 32 bits -/
def IsH (w : World) (v : Value) (l : List Nat) : Prop := IsL w v l ∧ Bh l
theorem IsL.bd {w : World} {v : Value} {l : List Nat} (h : IsL w v l) : Bd l := by obtain ⟨_, _, _, _, _, h, _⟩ := h; exact h
theorem hbound {l : List Nat} (h : Bh l) (i : Nat) : ((lat l i : Nat) : Int) ≤ 4294967295 := by have := h.lat i; unfold H32 at this; omega

set_option maxHeartbeats 1000000 in
theorem whole_f (v : Value) (l : List Nat) (w : World) (h : IsL w v l) (hh : Bh l) (hl : l.length ≤ 5000000) :
    Calls Tryz.prog 59 #[v] w fun e w' => ∃ v', e = .returned v' ∧ IsN w' v' (nuh l) ∧ Below w.heap.size w w' ∧ Fresh w.heap.size v' := by
  obtain ⟨A, c, rfl, hlc, hc, hbd, hr⟩ := h
  have hown0 := World.ownsRow_lit w #[] 0 (base := w.heap.size) (e := 44) (size := 1) (Nat.le_refl _) (by unfold maxLen; omega) rfl
  go_enter Tryz.func59, Tryz.ntmps59
  go_wp2
  go_loopw [3, 4] (fun o i wr => ∃ (k : Nat) (l' : List Nat), 2 * k ≤ l.length + 1 ∧ i = .int .i64 (2 * (k : Int)) ∧ Hid (l' = wh l k) ∧ l'.length ≤ k ∧ wr.ownsRow w.heap.size 44 1 o l'.length (us l') ∧ Below w.heap.size w wr) (fun _ i _ => l.length + 1 - (intOf i).toNat)
  case atStart => exact ⟨0, [], by omega, rfl, Lib.hid rfl, Nat.le_refl _, hown0, (Below.refl _ w).alloc (Nat.le_refl _) _⟩
  case round =>
    obtain ⟨k, l', hk, rfl, hl', hll, hown, hB⟩ := hrel
    by_cases hlt : 2 * k < l.length
    · obtain ⟨ad, rfl, _, hx⟩ := us_cell (hr.below hB) hlt
      have hx64 := hbound hh (2 * k)
      have Hs : Hid (wh l (k + 1) = l' ++ [lat l (2 * k) + lat l (2 * k + 1) * H32]) := by rw [Hid, wh, hl'.out]
      by_cases h2 : 2 * k + 1 < l.length
      · obtain ⟨_, e, _, hy⟩ := us_cell (hr.below hB) h2
        obtain rfl := Option.some.inj e
        rw [Addr.add, if_neg (by omega)] at hy
        have hy64 := hbound hh (2 * k + 1)
        go_wp2_with (at_builtin; go_must (refine wpList_app1 _ rfl _ _ 23 44 (.int .u64 0) 8 rfl Tryz.underlying23 info_u64 rfl w.heap.size (.int .u64 (((lat l (2 * k) : Nat) : Int) + ((lat l (2 * k + 1) : Nat) : Int) * 4294967296)) rfl _ l'.length (us l') rfl (hown.alloc _) ⟨wr.heap.size, 0, none⟩ rfl (by simp) (by omega) (by omega) (by simp; exact Nat.le_succ_of_le hB.size) ?_; intro v' w1 hown' hgrow))
        refine ⟨⟨k + 1, l' ++ [lat l (2 * k) + lat l (2 * k + 1) * H32], by omega, by go_num, Hs.out.symm, by simp; omega, ?_, (hB.alloc hB.size _).grown hgrow (by simp; exact Nat.le_succ_of_le hB.size) (fun j e => (hown.lt j e).1)⟩, by simp [intOf]; omega⟩
        rw [us_snoc, List.length_append, List.length_singleton, show ((lat l (2 * k) + lat l (2 * k + 1) * H32 : Nat) : Int) = ((lat l (2 * k) : Nat) : Int) + ((lat l (2 * k + 1) : Nat) : Int) * 4294967296 from by unfold H32; omega]
        exact hown'
      · go_wp2_with (at_builtin; go_must (refine wpList_app1 _ rfl _ _ 23 44 (.int .u64 0) 8 rfl Tryz.underlying23 info_u64 rfl w.heap.size (.int .u64 ((lat l (2 * k) : Nat) : Int)) rfl _ l'.length (us l') rfl (hown.alloc _) ⟨wr.heap.size, 0, none⟩ rfl (by simp) (by omega) (by omega) (by simp; exact Nat.le_succ_of_le hB.size) ?_; intro v' w1 hown' hgrow))
        refine ⟨⟨k + 1, l' ++ [lat l (2 * k) + lat l (2 * k + 1) * H32], by omega, by go_num, Hs.out.symm, by simp; omega, ?_, (hB.alloc hB.size _).grown hgrow (by simp; exact Nat.le_succ_of_le hB.size) (fun j e => (hown.lt j e).1)⟩, by simp [intOf]; omega⟩
        rw [us_snoc, List.length_append, List.length_singleton, show lat l (2 * k + 1) = 0 from lat_ge (by omega), Nat.zero_mul, Nat.add_zero]
        exact hown'
    · have hres : IsL wr u3 (wh l k) := by rw [← hl'.out]; exact IsL.of_own hown (hl'.out ▸ wh_bd l hh k)
      have hnum := num_wh l k
      rw [nuh_take_ge l _ (by omega)] at hnum
      have Hn := Lib.hid hnum
      clear hnum
      go_wp2_with fail
      refine (rbare_f _ _ _ hres (by rw [wh_len]; omega)).mono ?_
      rintro e w' ⟨r, rfl, hr, hb, hf⟩
      go_wp2
      go_ret
      exact ⟨_, rfl, by rw [← Hn.out]; exact hr, hB.trans (hb.mono hB.size), hf.more hB.size⟩

theorem whole_any (v : Value) (l : List Nat) (w : World) (h : IsL w v l) (hh : Bh l) (hl : l.length ≤ 5000000) :
    Calls Tryz.prog 59 #[v] w fun e w' => ∃ v', e = .returned v' ∧ IsN w' v' (nuh l) ∧ Below w.heap.size w w' :=
  (whole_f v l w h hh hl).mono fun _ _ ⟨v', h1, h2, h3, _⟩ => ⟨v', h1, h2, h3⟩

theorem halves2 (va : Value) (a : List Nat) (w : World) (ha : IsL w va a) (hl : a.length ≤ 1000000) :
    Calls Tryz.prog 57 #[va] w fun e w' => ∃ (A : Option Addr) (c : Nat), e = .returned (.slice A (hv a).length c) ∧ ((hv a).length ≤ c ∧ c ≤ 9223372036854775807) ∧ Bh (hv a) ∧ Reads w' w'.heap.size 1 A (hv a).length (us (hv a)) ∧ Below w.heap.size w w' :=
  (halves_any va a w ha hl).mono fun e w' ⟨v', he, ⟨A, c, h1, h2, h3, h4, h5⟩, hb⟩ => ⟨A, c, by rw [he, h1], ⟨h2, h3⟩, hv_bh a ha.bd, h5, hb⟩

set_option maxHeartbeats 2000000 in
theorem radd_f (va vb : Value) (a b : Nat) (w : World) (ha : IsN w va a) (hb : IsN w vb b) (hla : (limbs a).length ≤ 1000000) (hlb : (limbs b).length ≤ 1000000) :
    Calls Tryz.prog 37 #[va, vb] w fun e w' => ∃ v', e = .returned v' ∧ IsN w' v' (a + b) ∧ Below w.heap.size w w' ∧ Fresh w.heap.size v' := by
  have eab : nuh (hv (limbs a)) + nuh (hv (limbs b)) = a + b := by rw [nuh_hv, nuh_hv, num_limbs, num_limbs]
  have HA := Lib.hid (halves2 va _ w ha hla)
  have HB := Lib.hid (fun W (h : Below w.heap.size w W) => halves2 vb _ W (hb.below h) hlb)
  have la := hv_len (limbs a)
  have lb := hv_len (limbs b)
  rw [← eab]
  obtain ⟨x, hx⟩ : ∃ x, x = hv (limbs a) := ⟨_, rfl⟩
  obtain ⟨y, hy⟩ : ∃ y, y = hv (limbs b) := ⟨_, rfl⟩
  rw [← hx] at HA la ⊢
  rw [← hy] at HB lb ⊢
  have lx : x.length ≤ 2000000 := by omega
  have ly : y.length ≤ 2000000 := by omega
  clear hx hy eab la lb ha hb
  go_enter Tryz.func37, Tryz.ntmps37
  go_wp2_with fail
  refine HA.out.mono ?_
  rintro e w1 ⟨A, ca, rfl, hca, hxb, hrx, hb1⟩
  go_wp2_with fail
  refine (HB.out _ hb1).mono ?_
  rintro e w2 ⟨B, cb, rfl, hcb, hyb, hry, hb2⟩
  have hrx := (hrx.below hb2).more hb2.size
  have hbw := hb1.trans (hb2.mono hb1.size)
  obtain ⟨m, hm⟩ : ∃ m, m = max x.length y.length := ⟨_, rfl⟩
  have hmax := fun t y' W => run_max_nat (P := Tryz.prog) t y' W x.length y.length
  rw [← hm] at hmax
  have E := haddTo_end x y hxb hyb
  rw [← hm] at E
  have E' := Lib.hid E
  have hmm : m ≤ 2000000 := by omega
  clear hm E
  have hown0 := World.ownsRow_lit w2 #[] 0 (base := w2.heap.size) (e := 44) (size := 1) (Nat.le_refl _) (by unfold maxLen; omega) rfl
  go_wp2
  go_loopw [7, 8, 9] (fun o cy i wr => ∃ (k c : Nat) (l' : List Nat), k ≤ m + 1 ∧ i = .int .i64 k ∧ cy = .int .u64 c ∧ Hid ((l', c) = haddTo x y k) ∧ l'.length ≤ k ∧ wr.ownsRow w2.heap.size 44 1 o l'.length (us l') ∧ Below w2.heap.size w2 wr) (fun _ _ i _ => m + 1 - (intOf i).toNat)
  case atStart => exact ⟨0, 0, [], by omega, rfl, rfl, Lib.hid rfl, Nat.le_refl _, hown0, (Below.refl _ w2).alloc (Nat.le_refl _) _⟩
  case round =>
    obtain ⟨k, c, l', hk, rfl, rfl, hl', hll, hown, hB⟩ := hrel
    obtain ⟨o1, o2, o3, o4⟩ := haddTo_ok x y hxb hyb k
    rw [← hl'.out] at o3 o4
    dsimp only at o3 o4
    clear o1 o2
    by_cases hlt : k < m + 1
    · have hx64 := hbound hxb k
      have hy64 := hbound hyb k
      have Hs : Hid ((l' ++ [(lat x k + lat y k + c) % H32], (lat x k + lat y k + c) / H32) = haddTo x y (k + 1)) := by rw [Hid, haddTo, ← hl'.out]; rfl
      have CA := Lib.hid (rat_any (.slice A x.length ca) x k wr ⟨A, ca, rfl, hca.1, hca.2, hxb.bd, (hrx.below hB).more hB.size⟩)
      have CB := Lib.hid (rat_any (.slice B y.length cb) y k wr ⟨B, cb, rfl, hcb.1, hcb.2, hyb.bd, (hry.below hB).more hB.size⟩)
      go_wp2_with fail
      refine CA.out.mono ?_
      rintro e w' ⟨rfl, rfl⟩
      go_wp2_with fail
      refine CB.out.mono ?_
      rintro e w' ⟨rfl, rfl⟩
      go_wp2_with (at_builtin; go_must (refine wpList_app1 _ rfl _ _ 22 44 (.int .u64 0) 8 rfl Tryz.underlying22 info_u64 rfl w2.heap.size (.int .u64 ((((lat x k : Nat) : Int) + ((lat y k : Nat) : Int) + (c : Int)) % 4294967296)) rfl _ l'.length (us l') rfl (hown.alloc _) ⟨wr.heap.size, 0, none⟩ rfl (by simp) (by omega) (by omega) (by simp; exact Nat.le_succ_of_le hB.size) ?_; intro v' w1 hown' hgrow))
      refine ⟨⟨k + 1, (lat x k + lat y k + c) / H32, l' ++ [(lat x k + lat y k + c) % H32], by omega, by go_num, ?_, Hs, by simp; omega, ?_, (hB.alloc hB.size _).grown hgrow (by simp; exact Nat.le_succ_of_le hB.size) (fun j e => (hown.lt j e).1)⟩, by simp [intOf]; omega⟩
      · rw [show ((lat x k : Nat) : Int) + ((lat y k : Nat) : Int) + (c : Int) = ((lat x k + lat y k + c : Nat) : Int) from by omega, hdiv]
      · rw [us_snoc, List.length_append, List.length_singleton, ← hmod, show ((lat x k + lat y k + c : Nat) : Int) = ((lat x k : Nat) : Int) + ((lat y k : Nat) : Int) + (c : Int) from by omega]
        exact hown'
    · obtain rfl : k = m + 1 := by omega
      have el : l' = (haddTo x y (m + 1)).1 := by rw [← hl'.out]
      have hres : IsL wr u7 l' := IsL.of_own hown o4.bd
      have en : nuh l' = nuh x + nuh y := by rw [el]; exact E'.out
      have En := Lib.hid en
      clear en el o3
      go_wp2_with fail
      refine (whole_f _ l' _ hres o4 (by omega)).mono ?_
      rintro e w' ⟨r, rfl, hr, hb, hf⟩
      go_wp2
      go_ret
      exact ⟨_, rfl, by rw [← En.out]; exact hr, (hbw.trans (hB.mono hbw.size)).trans (hb.mono (Nat.le_trans hbw.size hB.size)), hf.more (Nat.le_trans hbw.size hB.size)⟩
theorem radd_any (va vb : Value) (a b : Nat) (w : World) (ha : IsN w va a) (hb : IsN w vb b) (hla : (limbs a).length ≤ 1000000) (hlb : (limbs b).length ≤ 1000000) :
    Calls Tryz.prog 37 #[va, vb] w fun e w' => ∃ v', e = .returned v' ∧ IsN w' v' (a + b) ∧ Below w.heap.size w w' :=
  (radd_f va vb a b w ha hb hla hlb).mono fun _ _ ⟨v', h1, h2, h3, _⟩ => ⟨v', h1, h2, h3⟩
end Go.Proofs.YtooonjcpdbbniaaGreatDoor
namespace Go.Proofs.YtooonjcpdbbniaaGreatDoor
open Go.RowKit

theorem new_cell (w : World) (t : TypeId) (u : Value) : (w.alloc (.cells #[u] t)).cell? ⟨w.heap.size, 0, none⟩ = some u := by rw [World.cell?_alloc_at _ _ _ _ rfl]; rfl
theorem own_drewN {w : World} {base : Nat} {e : TypeId} {size : Nat} {v : Value} {n : Nat} {xs : List Value} (h : w.ownsRow base e size v n xs) (k : Nat) : (w.drewN k).ownsRow base e size v n xs := h
theorem IsL.drewN {w : World} {v : Value} {l : List Nat} (h : IsL w v l) (n : Nat) : IsL (w.drewN n) v l := h.below (below_drewN (Below.refl _ _) n)
set_option maxHeartbeats 400000 in
theorem rsub_less (va vb : Value) (a b : Nat) (w : World) (ha : IsN w va a) (hb : IsN w vb b) (h : a < b) :
    Calls Tryz.prog 39 #[va, vb] w fun e w' => e = .returned (.tuple #[.slice none 0 0, .int .i64 2]) ∧ Below w.heap.size w w' := by
  have hc := rcmp_any va vb _ _ w ha hb
  rw [cmpL_limbs, cmpI_lt (by omega)] at hc
  have C := Lib.hid hc
  clear hc
  go_enter Tryz.func39, Tryz.ntmps39
  go_wp2_with fail
  refine C.out.mono ?_
  rintro e w1 ⟨rfl, n, rfl⟩
  go_wp2
  go_ret2
  exact ⟨rfl, below_drewN (Below.refl _ _) n⟩

set_option maxHeartbeats 2000000 in
theorem rsub_f (va vb : Value) (a b : Nat) (w : World) (ha : IsN w va a) (hb : IsN w vb b) (hla : (limbs a).length ≤ 1000000) (hlb : (limbs b).length ≤ 1000000) (hle : b ≤ a) :
    Calls Tryz.prog 39 #[va, vb] w fun e w' => ∃ v', e = .returned (.tuple #[v', .int .i64 0]) ∧ IsN w' v' (a - b) ∧ Below w.heap.size w w' ∧ Fresh w.heap.size v' := by
  have hc := rcmp_any va vb _ _ w ha hb
  rw [cmpL_limbs] at hc
  have C := Lib.hid hc
  have hcmp : ¬ (cmpI (a : Int) (b : Int) < 0) := by unfold cmpI; split <;> (try split) <;> omega
  have hcm2 : decide (cmpI (a : Int) (b : Int) < 0) = false := decide_eq_false hcmp
  clear hc hcmp
  have eab : nuh (hv (limbs a)) - nuh (hv (limbs b)) = a - b := by rw [nuh_hv, nuh_hv, num_limbs, num_limbs]
  have hle' : nuh (hv (limbs b)) ≤ nuh (hv (limbs a)) := by rw [nuh_hv, nuh_hv, num_limbs, num_limbs]; exact hle
  have HA := Lib.hid (fun W (h : Below w.heap.size w W) => halves2 va _ W (ha.below h) hla)
  have HB := Lib.hid (fun W (h : Below w.heap.size w W) => halves2 vb _ W (hb.below h) hlb)
  have la := hv_len (limbs a)
  have lb := hv_len (limbs b)
  have hyx : (hv (limbs b)).length ≤ (hv (limbs a)).length := by rw [la, lb]; have := limbs_len_mono hle; omega
  rw [← eab]
  obtain ⟨x, hx⟩ : ∃ x, x = hv (limbs a) := ⟨_, rfl⟩
  obtain ⟨y, hy⟩ : ∃ y, y = hv (limbs b) := ⟨_, rfl⟩
  rw [← hx] at HA la hle' hyx ⊢
  rw [← hy] at HB lb hle' hyx ⊢
  have lx : x.length ≤ 2000000 := by omega
  have ly : y.length ≤ 2000000 := by omega
  clear hx hy eab la lb ha hb
  go_enter Tryz.func39, Tryz.ntmps39
  go_wp2_with fail
  refine C.out.mono ?_
  rintro e w0 ⟨rfl, n, rfl⟩
  have hb0 := below_drewN (Below.refl w.heap.size w) n
  go_wp2_with fail
  refine (HA.out _ hb0).mono ?_
  rintro e w1 ⟨A, ca, rfl, hca, hxb, hrx, hb1⟩
  have hb1 := hb0.trans (hb1.mono hb0.size)
  go_wp2_with fail
  refine (HB.out _ hb1).mono ?_
  rintro e w2 ⟨B, cb, rfl, hcb, hyb, hry, hb2⟩
  have hrx := (hrx.below hb2).more hb2.size
  have hbw := hb1.trans (hb2.mono hb1.size)
  have E' := Lib.hid (hsubTo_end x y hxb hyb hyx hle')
  have hown0 := World.ownsRow_lit w2 #[] 0 (base := w2.heap.size) (e := 44) (size := 1) (Nat.le_refl _) (by unfold maxLen; omega) rfl
  go_wp2
  go_loopw [8, 9, 10] (fun o cy i wr => ∃ (k c : Nat) (l' : List Nat), k ≤ x.length ∧ i = .int .i64 k ∧ cy = .int .u64 c ∧ Hid ((l', c) = hsubTo x y k) ∧ l'.length ≤ k ∧ wr.ownsRow w2.heap.size 44 1 o l'.length (us l') ∧ Below w2.heap.size w2 wr) (fun _ _ i _ => x.length - (intOf i).toNat)
  case atStart => exact ⟨0, 0, [], by omega, rfl, rfl, Lib.hid rfl, Nat.le_refl _, hown0, (Below.refl _ w2).alloc (Nat.le_refl _) _⟩
  case round =>
    obtain ⟨k, c, l', hk, rfl, rfl, hl', hll, hown, hB⟩ := hrel
    obtain ⟨o1, o2, o3, o4⟩ := hsubTo_ok x y hxb hyb k
    rw [← hl'.out] at o3 o4
    dsimp only at o3 o4
    clear o1 o2
    by_cases hlt : k < x.length
    · have hx64 := hxb.lat k
      have hy64 := hyb.lat k
      have Hs : Hid ((l' ++ [(H32 + lat x k - lat y k - c) % H32], 1 - (H32 + lat x k - lat y k - c) / H32) = hsubTo x y (k + 1)) := by rw [Hid, hsubTo, ← hl'.out]; rfl
      have CB := Lib.hid (fun n => rat_any (.slice B y.length cb) y k (wr.drewN n) (IsL.drewN ⟨B, cb, rfl, hcb.1, hcb.2, hyb.bd, (hry.below hB).more hB.size⟩ n))
      obtain ⟨ad, rfl, _, hxc⟩ := us_cell (hrx.below hB) hlt
      obtain ⟨xk, ex⟩ : ∃ xk, xk = lat x k := ⟨_, rfl⟩
      obtain ⟨yk, ey⟩ : ∃ yk, yk = lat y k := ⟨_, rfl⟩
      rw [← ex] at hxc Hs hx64
      rw [← ey] at CB Hs hy64
      obtain ⟨s1, e1⟩ : ∃ s1, s1 = H32 + xk := ⟨_, rfl⟩
      obtain ⟨s2, e2⟩ : ∃ s2, s2 = s1 - yk := ⟨_, rfl⟩
      obtain ⟨s3, e3⟩ : ∃ s3, s3 = s2 - c := ⟨_, rfl⟩
      rw [← e1, ← e2, ← e3] at Hs
      have t1 : IntKind.u64.wrap (4294967296 + (xk : Int)) = (s1 : Int) := by rw [IntKind.wrap_u64]; unfold H32 at *; omega
      have t2 : IntKind.u64.wrap ((s1 : Int) - (yk : Int)) = (s2 : Int) := by rw [IntKind.wrap_u64]; unfold H32 at *; omega
      have t3 : IntKind.u64.wrap ((s2 : Int) - (c : Int)) = (s3 : Int) := by rw [IntKind.wrap_u64]; unfold H32 at *; omega
      have b3 : (s3 : Int) ≤ 8589934591 := by unfold H32 at *; omega
      clear ex ey e1 e2 e3 hx64 hy64
      go_wp2
      go_quiet ((go_at_call 58; exact quiet_left (CB.out _)))
      go_wp2_with (at_builtin; go_must (refine wpList_app1 _ rfl _ _ 22 44 (.int .u64 0) 8 rfl Tryz.underlying22 info_u64 rfl w2.heap.size (.int .u64 ((s3 : Int) % 4294967296)) rfl _ l'.length (us l') rfl ((own_drewN hown _).alloc _) ⟨wr.heap.size, 0, none⟩ rfl (by exact new_cell _ _ _) (by omega) (by omega) (by simp; exact Nat.le_succ_of_le hB.size) ?_; intro v' w1 hown' hgrow))
      refine ⟨⟨k + 1, 1 - s3 / H32, l' ++ [s3 % H32], by omega, by go_num, ?_, Hs, by simp; omega, ?_, ((below_drewN hB _).alloc hB.size _).grown hgrow (by simp; exact Nat.le_succ_of_le hB.size) (fun j e => (hown.lt j e).1)⟩, by simp [intOf]; omega⟩
      · rw [hdiv]
        have hq : s3 / H32 ≤ 1 := by unfold H32; omega
        rw [show ((1 - s3 / H32 : Nat) : Int) = 1 - ((s3 / H32 : Nat) : Int) from by omega]
      · rw [us_snoc, List.length_append, List.length_singleton, ← hmod]
        exact hown'
    · obtain rfl : k = x.length := by omega
      have el : l' = (hsubTo x y x.length).1 := by rw [← hl'.out]
      have hres : IsL wr u8 l' := IsL.of_own hown o4.bd
      have en : nuh l' = nuh x - nuh y := by rw [el]; exact E'.out
      have En := Lib.hid en
      clear en el o3
      go_wp2_with fail
      refine (whole_f _ l' _ hres o4 (by omega)).mono ?_
      rintro e w' ⟨r, rfl, hr, hb, hf⟩
      go_wp2
      go_ret2
      exact ⟨_, rfl, by rw [← En.out]; exact hr, (hbw.trans (hB.mono hbw.size)).trans (hb.mono (Nat.le_trans hbw.size hB.size)), hf.more (Nat.le_trans hbw.size hB.size)⟩
theorem rsub_any (va vb : Value) (a b : Nat) (w : World) (ha : IsN w va a) (hb : IsN w vb b) (hla : (limbs a).length ≤ 1000000) (hlb : (limbs b).length ≤ 1000000) (hle : b ≤ a) :
    Calls Tryz.prog 39 #[va, vb] w fun e w' => ∃ v', e = .returned (.tuple #[v', .int .i64 0]) ∧ IsN w' v' (a - b) ∧ Below w.heap.size w w' :=
  (rsub_f va vb a b w ha hb hla hlb hle).mono fun _ _ ⟨v', h1, h2, h3, _⟩ => ⟨v', h1, h2, h3⟩

set_option maxRecDepth 100000 in
set_option maxHeartbeats 2000000 in
theorem rmul_any (va vb : Value) (na nb : Nat) (w : World) (ha : IsN w va na) (hb : IsN w vb nb) (hla : (limbs na).length ≤ 1000000) (hlb : (limbs nb).length ≤ 1000000) :
    Calls Tryz.prog 41 #[va, vb] w fun e w' => ∃ v', e = .returned v' ∧ IsN w' v' (na * nb) ∧ Below w.heap.size w w' := by
  have eab : nuh (hv (limbs na)) * nuh (hv (limbs nb)) = na * nb := by rw [nuh_hv, nuh_hv, num_limbs, num_limbs]
  have HA := Lib.hid (halves2 va _ w ha hla)
  have HB := Lib.hid (fun W (h : Below w.heap.size w W) => halves2 vb _ W (hb.below h) hlb)
  have la := hv_len (limbs na)
  have lb := hv_len (limbs nb)
  rw [← eab]
  obtain ⟨a, hx⟩ : ∃ x, x = hv (limbs na) := ⟨_, rfl⟩
  obtain ⟨b, hy⟩ : ∃ y, y = hv (limbs nb) := ⟨_, rfl⟩
  rw [← hx] at HA la ⊢
  rw [← hy] at HB lb ⊢
  have lx : a.length ≤ 2000000 := by omega
  have ly : b.length ≤ 2000000 := by omega
  clear hx hy eab la lb ha hb
  have hmk := run_make_u64 22 Tryz.underlying22 (a.length + b.length + 1) ((a.length : Int) + (b.length : Int) + 1) (by omega) (by omega)
  go_enter Tryz.func41, Tryz.ntmps41
  go_wp2_with fail
  refine HA.out.mono ?_
  rintro e w1 ⟨A, ca, rfl, hca, hba, hra, hb1⟩
  go_wp2_with fail
  refine (HB.out _ hb1).mono ?_
  rintro e w2 ⟨B, cb, rfl, hcb, hbb, hrb, hb2⟩
  have hra := (hra.below hb2).more hb2.size
  have hbw := hb1.trans (hb2.mono hb1.size)
  clear hb1 hb2
  have a0 := Arr.new w2 (zeros (a.length + b.length + 1))
  have hB0 : Below w2.heap.size w2 (w2.alloc (.cells (us (zeros (a.length + b.length + 1))).toArray 44)) := (Below.refl _ w2).alloc (Nat.le_refl _) _
  go_wp2
  go_loopw [8] (fun i wr => ∃ (k : Nat) (l : List Nat), k ≤ a.length ∧ i = .int .i64 k ∧ Arr wr w2.heap.size l ∧ Hid (l.length = a.length + b.length + 1) ∧ Bh l ∧ Hid (nuh l = nuh (a.take k) * nuh b) ∧ Hid (∀ j, k + b.length ≤ j → lat l j = 0) ∧ Below w2.heap.size w2 wr) (fun i _ => a.length - (intOf i).toNat)
  case atStart => exact ⟨0, zeros (a.length + b.length + 1), Nat.zero_le _, rfl, a0, zeros_len _, Bh.zeros _, Lib.hid (by rw [nuh_zeros]; simp [nuh]), Lib.hid (fun j _ => lat_zeros _ _), hB0⟩
  case round =>
    obtain ⟨k, l, hk, rfl, hA, hlen, hbl, hnum, hz, hB⟩ := hrel
    by_cases hlt : k < a.length
    · obtain ⟨ad, rfl, _, hxc⟩ := us_cell (hra.below hB) hlt
      have hx64 := hba.lat k
      have hxi := hbound hba k
      obtain ⟨x, hx⟩ : ∃ x, x = lat a k := ⟨_, rfl⟩
      rw [← hx] at hxc hx64 hxi
      have Hx := Lib.hid hx
      clear hx
      go_wp2
      go_loopw [9, 10] (fun cy i wi => ∃ (m c : Nat) (l' : List Nat), m ≤ b.length ∧ cy = .int .u64 c ∧ i = .int .i64 m ∧ c < H32 ∧ Arr wi w2.heap.size l' ∧ Hid (l'.length = a.length + b.length + 1) ∧ Bh l' ∧ Hid (nuh l' + H32 ^ (k + m) * c = nuh (a.take k) * nuh b + H32 ^ k * (x * nuh (b.take m))) ∧ Hid (∀ j, k + b.length ≤ j → lat l' j = 0) ∧ Below w2.heap.size w2 wi) (fun _ i _ => b.length - (intOf i).toNat)
      case atStart => exact ⟨0, 0, l, Nat.zero_le _, rfl, rfl, H32_pos, hA, hlen, hbl, Lib.hid (by rw [hnum.out]; simp [nuh]), hz, hB⟩
      case round =>
        obtain ⟨m, c, l', hm, rfl, rfl, hc64, hA', hlen', hbl', hinv, hz', hB'⟩ := hrel
        by_cases hmt : m < b.length
        · obtain ⟨bd, rfl, _, hyc⟩ := us_cell (hrb.below hB') hmt
          obtain ⟨_, e, _, hxc'⟩ := us_cell (hra.below hB') hlt
          obtain rfl := Option.some.inj e
          have hy64 := hbb.lat m
          obtain ⟨y, hy⟩ : ∃ y, y = lat b m := ⟨_, rfl⟩
          rw [← hy] at hyc hy64
          rw [← Hx.out] at hxc'
          have hoc := hA'.cell (i := k + m) (by rw [hlen'.out]; omega)
          have hof := hA'.frozen (k + m)
          have ho64 := hbl'.lat (k + m)
          obtain ⟨o, ho⟩ : ∃ o, o = lat l' (k + m) := ⟨_, rfl⟩
          rw [← ho] at hoc ho64
          obtain ⟨p, ep⟩ : ∃ p, p = x * y := ⟨_, rfl⟩
          obtain ⟨q, eq⟩ : ∃ q, q = o + p := ⟨_, rfl⟩
          obtain ⟨n, en⟩ : ∃ n, n = q + c := ⟨_, rfl⟩
          obtain ⟨d1, d2, d3, d4⟩ := hmul_digit hx64 hy64 ho64 hc64 (n := n) (by rw [en, eq, ep])
          rw [← ep] at d4
          have w0 : IntKind.u64.wrap ((x : Int) * (y : Int)) = (p : Int) := by
            rw [IntKind.wrap_u64, ← Int.natCast_mul, ← ep]; unfold W64 at d4; omega
          have w1 : IntKind.u64.wrap ((o : Int) + (p : Int)) = (q : Int) := by
            rw [IntKind.wrap_u64, eq]; unfold W64 at d4; omega
          have w2' : IntKind.u64.wrap ((q : Int) + (c : Int)) = (n : Int) := by
            rw [IntKind.wrap_u64, en]; unfold W64 at d1; omega
          have fin := Lib.hid (hmul_inner (i := k) (by rw [hlen'.out]; omega) ho hinv.out (by rw [← hy]; exact d2))
          have D := Lib.hid d3
          have hn64 := hide64 n d1
          clear ep eq en d1 d2 d3 d4 hx64 hy64 ho64 hc64 ho hy hinv
          go_wp2
          go_quiet (fail)
          go_wp2
          rw [hdiv, hmod]
          refine ⟨⟨m + 1, n / H32, l'.set (k + m) (n % H32), by omega, rfl, by go_num, D.out, (hA'.drewN _).set _ _, by rw [Hid, List.length_set]; exact hlen'.out, hbl'.set _ (Nat.mod_lt _ H32_pos), fin, ?_, (below_drewN hB' _).setCell (p := ⟨w2.heap.size, k + m, none⟩) (Nat.le_refl _) _⟩, by simp [intOf]; omega⟩
          refine Lib.hid (fun j hj => ?_)
          rw [lat_set, if_neg (by omega)]
          exact hz'.out j hj
        · obtain rfl : m = b.length := by omega
          have hi2 : k + b.length < l'.length := by rw [hlen'.out]; omega
          have hoc := hA'.cell hi2
          have hof := hA'.frozen (k + b.length)
          have fin := hmul_outer (a := a) (b := b) (i := k) (c := c) hi2 (hz'.out _ (Nat.le_refl _)) (by have := hinv.out; rwa [List.take_length, Hx.out] at this)
          have Fin := Lib.hid fin
          have C := Lib.hid hc64
          clear fin hi2 hc64
          go_wp2
          refine ⟨⟨k + 1, l'.set (k + b.length) c, by omega, by go_num, hA'.set _ _, by rw [Hid, List.length_set]; exact hlen'.out, hbl'.set _ C.out, Fin, ?_, hB'.setCell (p := ⟨w2.heap.size, k + b.length, none⟩) (Nat.le_refl _) _⟩, by simp [intOf]; omega⟩
          refine Lib.hid (fun j hj => ?_)
          rw [lat_set, if_neg (by omega)]
          exact hz'.out j (by omega)
    · obtain rfl : k = a.length := by omega
      have hres := hA.isL hbl.bd (by rw [hlen.out]; omega)
      have hl3 : l.length ≤ 5000000 := by rw [hlen.out]; omega
      rw [hlen.out] at hres
      have N := hnum.out
      rw [List.take_length] at N
      have N' := Lib.hid N
      clear N
      go_wp2_with fail
      refine (whole_any _ l _ hres hbl hl3).mono ?_
      rintro e w' ⟨r, rfl, hr, hb⟩
      go_wp2
      go_ret
      exact ⟨_, rfl, by rw [← N'.out]; exact hr, (hbw.trans (hB.mono hbw.size)).trans (hb.mono (Nat.le_trans hbw.size hB.size))⟩
end Go.Proofs.YtooonjcpdbbniaaGreatDoor
namespace Go.Proofs
open Go.Shelf
def Tryz.lays129_ren : Go.Shelf.Ren := ⟨fun | 129 => 97 | n => n, fun | 53 => 44 | 3 => 3 | 4 => 4 | 46 => 92 | 5 => 5 | 9 => 9 | n => n, fun | n => n⟩
theorem Tryz.lays129 : Go.Proofs.Lays.n129 Tryz.prog Tryz.lays129_ren := {
  mixed := by kernel_rfl
  f129 := Tryz.func97.trans (congrArg some (by kernel_rfl))
  t3 := Tryz.underlying3
  a3 := Tryz.isAgg3
  z3 := Tryz.sizeOf3
  v3 := Tryz.zeroValue3
  t4 := Tryz.underlying4
  a4 := Tryz.isAgg4
  z4 := Tryz.sizeOf4
  v4 := Tryz.zeroValue4
  t5 := Tryz.underlying5
  a5 := Tryz.isAgg5
  z5 := Tryz.sizeOf5
  v5 := Tryz.zeroValue5
  t9 := Tryz.underlying9
  a9 := Tryz.isAgg9
  z9 := Tryz.sizeOf9
  v9 := Tryz.zeroValue9
  t46 := Tryz.underlying92
  a46 := Tryz.isAgg92
  z46 := Tryz.sizeOf92
  v46 := Tryz.zeroValue92
  t53 := Tryz.underlying44
  a53 := Tryz.isAgg44
  z53 := Tryz.sizeOf44
  v53 := Tryz.zeroValue44 }
def Tryz.lays264_ren : Go.Shelf.Ren := ⟨fun | 264 => 60 | n => n, fun | 53 => 44 | 46 => 92 | n => n, fun | n => n⟩
theorem Tryz.lays264 : Go.Proofs.Lays.n264 Tryz.prog Tryz.lays264_ren := {
  mixed := by kernel_rfl
  f264 := Tryz.func60.trans (congrArg some (by kernel_rfl))
  t46 := Tryz.underlying92
  a46 := Tryz.isAgg92
  z46 := Tryz.sizeOf92
  v46 := Tryz.zeroValue92
  t53 := Tryz.underlying44
  a53 := Tryz.isAgg44
  z53 := Tryz.sizeOf44
  v53 := Tryz.zeroValue44 }
end Go.Proofs
namespace Go.Proofs.YtooonjcpdbbniaaGreatDoor
open Go.RowKit Go.Shelf

theorem mul64_any (x y : Nat) (hx : x < W64) (hy : y < W64) (w : World) :
    Calls Tryz.prog 60 #[.int .u64 x, .int .u64 y] w fun e w' => e = .returned (.tuple #[.int .u64 ((x * y / W64 : Nat) : Int), .int .u64 ((x * y % W64 : Nat) : Int)]) ∧ w = w' :=
  (Any.bits_Mul64 Tryz.lays264 x y hx hy w).mono fun _ _ ⟨h, h'⟩ => ⟨h, h'.symm⟩

theorem run_Add64 (x y c : Nat) (hc : c ≤ 1) (w : World) :
    (callFunc 55 #[.int .u64 x, .int .u64 y, .int .u64 c]).run Tryz.prog w = .ok (.value (.tuple #[.int .u64 (((x + y + c) % W64 : Nat) : Int), .int .u64 (((x + y + c) / W64 : Nat) : Int)])) w := by
  rw [run_callFunc_extern Tryz.func55 (by kernel_rfl) (by kernel_rfl) (by kernel_rfl) (e := add64Entry) (by kernel_rfl), run_add64 x y c (by omega) (by omega) (by omega) (by omega)]
  simp only [Result.andThen, W64]
  congr 5 <;> omega


theorem run_Sub64 (x y c : Nat) (hc : c ≤ 1) (w : World) :
    (callFunc 56 #[.int .u64 x, .int .u64 y, .int .u64 c]).run Tryz.prog w = .ok (.value (.tuple #[.int .u64 (((x + W64 - y - c) % W64 : Nat) : Int), .int .u64 ((if x < y + c then 1 else 0 : Nat) : Int)])) w := by
  rw [run_callFunc_extern Tryz.func56 (by kernel_rfl) (by kernel_rfl) (by kernel_rfl) (e := fun args => do
    let (x, y, b) ← Extern.MathBitsCarry.three "Sub64" args
    pure (Extern.MathBitsCarry.pair ((x + Extern.MathBitsCarry.m64 - y - b) % Extern.MathBitsCarry.m64) (if x < y + b then 1 else 0))) (by kernel_rfl)]
  have : c = 0 ∨ c = 1 := by omega
  rcases this with rfl | rfl <;> rfl
theorem bitLenAux_bl (f x : Nat) (h : x < 2 ^ f) : Lib.bitLenAux f x = bl x := by
  induction f generalizing x with
  | zero => have : x = 0 := by simpa using h
            subst this; rw [bl_zero]; rfl
  | succ f ih =>
    unfold Lib.bitLenAux
    split
    · rename_i h0; subst h0; exact bl_zero.symm
    · rename_i h0
      rw [bl_pos h0, ih _ (by rw [Nat.pow_succ] at h; omega)]; omega
theorem len64_any (x : Nat) (hx : x < W64) (w : World) :
    Calls Tryz.prog 97 #[.int .u64 x] w fun e w' => e = .returned (.int .i64 (bl x : Nat)) ∧ w = w' :=
  (Any.bits_Len64 Tryz.lays129 (x : Int) w (by omega) (by rw [W64] at hx; omega)).mono fun _ _ ⟨h, h'⟩ => ⟨by rw [h, Int.toNat_natCast, Lib.bitLen, bitLenAux_bl 64 x hx], h'.symm⟩
theorem mul64_ex (x y hi lo : Nat) (hx : x < W64) (hy : y < W64) (h1 : hi = x * y / W64) (h2 : lo = x * y % W64) (w : World) :
    Calls Tryz.prog 60 #[.int .u64 x, .int .u64 y] w fun e w' => e = .returned (.tuple #[.int .u64 (hi : Int), .int .u64 (lo : Int)]) ∧ w = w' := by
  subst h1 h2; exact mul64_any x y hx hy w
theorem run_Add64_ex (x y c s k : Nat) (ci : Int) (hci : ci = c) (hc : c ≤ 1) (hs : s = (x + y + c) % W64) (hk : k = (x + y + c) / W64) (w : World) :
    (callFunc 55 #[.int .u64 x, .int .u64 y, .int .u64 ci]).run Tryz.prog w = .ok (.value (.tuple #[.int .u64 (s : Int), .int .u64 (k : Int)])) w := by
  subst hci hs hk; exact run_Add64 x y c hc w
end Go.Proofs.YtooonjcpdbbniaaGreatDoor
namespace Go.Proofs.YtooonjcpdbbniaaGreatDoor
open Go.RowKit

set_option maxHeartbeats 400000 in
theorem rbits_any (v : Value) (a : Nat) (w : World) (h : IsN w v a) (hl : (limbs a).length ≤ 1000000) :
    Calls Tryz.prog 82 #[v] w fun e w' => e = .returned (.int .i64 (bl a : Nat)) ∧ w = w' := by
  obtain ⟨A, c, rfl, hlc, hc, hbd, hr⟩ := h
  have hrt := limbs_rt a
  have hnum := num_limbs a
  generalize limbs a = l at *
  subst hnum
  by_cases h0 : l = []
  · subst h0
    go_enter Tryz.func82, Tryz.ntmps82
    go_wp2
    go_ret
    exact ⟨ret_int (by rw [num, bl_zero]; rfl), rfl⟩
  · have hp : 0 < l.length := List.length_pos_iff.2 h0
    obtain ⟨ad, rfl, _, hx⟩ := us_cell hr (k := l.length - 1) (by omega)
    have e := Lib.hid (bl_num hbd hrt h0)
    have hb64 := bl_le_iff.2 (show lat l (l.length - 1) < 2 ^ 64 from hbd.lat _)
    have e1 : ((l.length : Int) == 0) = false := by simp [h0]
    clear h0 hrt
    go_enter Tryz.func82, Tryz.ntmps82
    go_wp2
    go_loop [3, 4] (fun n t => ∃ (k x : Nat), n = .int .i64 (64 * ((l.length : Int) - 1) + (k : Int)) ∧ t = .int .u64 (x : Int) ∧ (x : Int) ≤ 18446744073709551615 ∧ k ≤ 64 ∧ Hid (k + bl x = bl (lat l (l.length - 1)))) (fun _ t => (intOf t).toNat)
    case atStart => exact ⟨0, lat l (l.length - 1), by simp, rfl, by have := hbd.lat (l.length - 1); unfold W64 at this; omega, by omega, Lib.hid (by omega)⟩
    case round =>
      obtain ⟨k, x, rfl, rfl, hxb, hk, hkx⟩ := hrel
      by_cases hx0 : 0 < x
      · have hs : Hid (k + 1 + bl (x / 2) = bl (lat l (l.length - 1))) := by have h1 := hkx.out; have h2 := bl_pos (n := x) (by omega); rw [Hid]; omega
        have hk2 : k + 1 ≤ 64 := by have := hs.out; omega
        go_wp2
        go_round
        case rel => exact ⟨k + 1, x / 2, by go_num, by go_num, by omega, hk2, hs⟩
        case measure => simp [intOf]; omega
      · obtain rfl : x = 0 := by omega
        go_wp2
        go_ret
        have := hkx.out
        rw [bl_zero] at this
        exact ⟨ret_int (by rw [e.out]; omega), rfl⟩
end Go.Proofs.YtooonjcpdbbniaaGreatDoor
namespace Go.Proofs.YtooonjcpdbbniaaGreatDoor
open Go.RowKit
/-- a number of at most k limbs -/
def Sz (n k : Nat) : Prop := (limbs n).length ≤ k
theorem Sz.fin {n k : Nat} (h : Sz n k) (hk : k ≤ 1000000) : (limbs n).length ≤ 1000000 := Nat.le_trans h hk
theorem Sz.add {a b k m : Nat} (ha : Sz a k) (hb : Sz b m) : Sz (a + b) (k + m + 1) := by
  unfold Sz at *; have := limbs_len_add a b; omega
theorem Sz.mul {a b k m : Nat} (ha : Sz a k) (hb : Sz b m) : Sz (a * b) (k + m) := by
  unfold Sz at *; have := limbs_len_mul a b; omega
theorem Sz.sub {a b k : Nat} (ha : Sz a k) : Sz (a - b) k := Nat.le_trans (limbs_len_mono (Nat.sub_le a b)) ha
theorem Sz.le {a b k : Nat} (ha : Sz a k) (h : b ≤ a) : Sz b k := Nat.le_trans (limbs_len_mono h) ha
theorem Sz.more {a k m : Nat} (ha : Sz a k) (h : k ≤ m) : Sz a m := Nat.le_trans ha h
theorem Sz.zero : Sz 0 0 := by unfold Sz; rw [limbs_zero]; simp
theorem Sz.one : Sz 1 1 := by unfold Sz; rw [limbs_single (by omega) (by unfold W64; omega)]; simp
theorem Sz.pow {n k : Nat} (h : n < W64 ^ k) : Sz n k := limbs_len_le h
theorem Sz.two_pow (n : Nat) : Sz (2 ^ n) (n / 64 + 1) := by
  apply Sz.pow; rw [W64_pow]; exact Nat.pow_lt_pow_right (by omega) (by omega)
theorem Sz.bl {n k : Nat} (h : Sz n k) : bl n ≤ 64 * k := by
  rw [bl_le_iff, ← W64_pow]; exact lt_of_limbs_len h
theorem Sz.u64 {n : Nat} (h : n < W64) : Sz n 1 := Sz.pow (by rwa [Nat.pow_one])

set_option maxHeartbeats 400000 in
theorem rsame_any (va vb : Value) (a b : Nat) (w : World) (ha : IsN w va a) (hb : IsN w vb b) :
    Calls Tryz.prog 28 #[va, vb] w fun e w' => e = .returned (.bool (decide (a = b))) ∧ ∃ n, w' = w.drewN n := by
  have C := rcmp_any va vb _ _ w ha hb
  rw [cmpL_limbs] at C
  have C' := Lib.hid C
  clear C
  go_enter Tryz.func28, Tryz.ntmps28
  go_wp2_with fail
  refine C'.out.mono ?_
  rintro e w1 ⟨rfl, n, rfl⟩
  go_wp2
  go_ret
  refine ⟨ret_bool ?_, n, rfl⟩
  rw [Bool.eq_iff_iff, beq_iff_eq, decide_eq_true_iff, cmpI_zero]
  omega
theorem IsN.open_ {w : World} {v : Value} {n : Nat} (h : IsN w v n) : ∃ A m c, v = .slice A m c ∧ m = (limbs n).length := by obtain ⟨A, c, e, _⟩ := h; exact ⟨A, _, c, e, rfl⟩
theorem rcmp_n (va vb : Value) (a b : Nat) (w : World) (ha : IsN w va a) (hb : IsN w vb b) :
    Calls Tryz.prog 38 #[va, vb] w fun e w' => e = .returned (.int .i64 (cmpI a b)) ∧ ∃ n, w' = w.drewN n := by
  have := rcmp_any va vb _ _ w ha hb
  rwa [cmpL_limbs] at this
theorem rright_n (v : Value) (n : Nat) (w : World) (h : IsN w v n) : Calls Tryz.prog 27 #[v] w fun e w' => e = .returned (.bool true) ∧ w = w' := by
  have := rright_any v _ w h
  rwa [decide_eq_true (show limbs n = [] ∨ lat (limbs n) ((limbs n).length - 1) ≠ 0 from limbs_rt n)] at this

set_option maxHeartbeats 400000 in
theorem rof_f (n : Nat) (hn : n < W64) (w : World) :
    Calls Tryz.prog 32 #[.int .u64 n] w fun e w' => ∃ v', e = .returned v' ∧ IsN w' v' n ∧ Below w.heap.size w w' ∧ Fresh w.heap.size v' := by
  go_enter Tryz.func32, Tryz.ntmps32
  go_wp2_with fail
  refine (rbare_f _ [n] _ (IsL.fresh w _ [n] (Bd.cons hn Bd.nil) (by simp)) (by simp)).mono ?_
  rintro e w' ⟨v', rfl, hv, hb, hf⟩
  go_wp2
  go_ret
  have b0 : Below w.heap.size w (w.alloc (.cells #[.int .u64 (n : Int)] 44)) := (Below.refl _ _).alloc (Nat.le_refl _) _
  exact ⟨_, rfl, by rwa [num_single] at hv, b0.trans (hb.mono b0.size), hf.more b0.size⟩
theorem rof_any (n : Nat) (hn : n < W64) (w : World) :
    Calls Tryz.prog 32 #[.int .u64 n] w fun e w' => ∃ v', e = .returned v' ∧ IsN w' v' n ∧ Below w.heap.size w w' :=
  (rof_f n hn w).mono fun _ _ ⟨v', h1, h2, h3, _⟩ => ⟨v', h1, h2, h3⟩
end Go.Proofs.YtooonjcpdbbniaaGreatDoor
