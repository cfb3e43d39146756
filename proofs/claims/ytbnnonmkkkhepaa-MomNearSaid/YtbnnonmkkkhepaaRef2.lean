/- Walks of the reference's sums, differences and products, by figures of 32 bits. -/
import Derived.Test.YtbnnonmkkkhepaaRef1
import Derived.Test.YtbnnonmkkkhepaaArr
import Derived.Test.YtbnnonmkkkhepaaMath
import Derived.Deep.RegionLaw
import Derived.Maps.AppendAt
import Derived.Deep.DeepMust
namespace Go.Proofs.Ytbnnonmkkkhepaa
open Go.RowKit

theorem run_max_nat {P : Program} (t : Array TypeId) (y : TypeId) (W : World) (a b : Nat) : (Builtin.max_ t y #[.int .i64 a, .int .i64 b]).run P W = .ok (.int .i64 ((max a b : Nat) : Int)) W := by
  rcases Nat.le_total a b with h | h
  · rw [Nat.max_eq_right h]
    by_cases e : a = b
    · subst e; simp [Builtin.max_, Builtin.max2]
    · have : (a : Int) < b := by omega
      simp [Builtin.max_, Builtin.max2, this]
  · rw [Nat.max_eq_left h]
    have : ¬ (a : Int) < b := by omega
    simp [Builtin.max_, Builtin.max2, this]

theorem hide64 (n : Nat) (h : n < W64) : ((n : Nat) : Int) ≤ 18446744073709551615 := by unfold W64 at h; omega
theorem hmod (n : Nat) : ((n : Nat) : Int) % 4294967296 = ((n % H32 : Nat) : Int) := by unfold H32; omega
theorem hdiv (n : Nat) : ((n : Nat) : Int) / 4294967296 = ((n / H32 : Nat) : Int) := by unfold H32; omega

theorem us_append (a b : List Nat) : us (a ++ b) = us a ++ us b := by simp [us]
set_option maxHeartbeats 1000000 in
theorem halves_any (v : Value) (l : List Nat) (w : World) (h : IsL w v l) (hl : l.length ≤ 1000000) :
    Calls Try.prog 51 #[v] w fun e w' => ∃ v', e = .returned v' ∧ IsL w' v' (hv l) ∧ Below w.heap.size w w' := by
  obtain ⟨A, c, rfl, hlc, hc, hbd, hr⟩ := h
  have hmx : Try.prog.follows .mixedOrders = true := by kernel_rfl
  obtain ⟨i0, hi, hz0, hz1, hz2⟩ := info_parts info_u64
  have hown0 := World.ownsRow_lit w #[] 0 (base := w.heap.size) (e := 84) (size := 1) (Nat.le_refl _) (by unfold maxLen; omega) rfl
  go_enter Try.func51, Try.ntmps51
  go_wp2
  go_loopw [3, 4] (fun o i wr => ∃ (k : Nat) (l' : List Nat), k ≤ l.length ∧ i = .int .i64 k ∧ Hid (l' = hv (l.take k)) ∧ l'.length ≤ 2 * k ∧ wr.ownsRow w.heap.size 84 1 o l'.length (us l') ∧ Below w.heap.size w wr) (fun _ i _ => l.length - (intOf i).toNat)
  case atStart => exact ⟨0, [], Nat.zero_le _, rfl, Lib.hid rfl, Nat.le_refl _, hown0, (Below.refl _ w).alloc (Nat.le_refl _) _⟩
  case round =>
    obtain ⟨k, l', hk, rfl, hl', hll, hown, hB⟩ := hrel
    by_cases hlt : k < l.length
    · obtain ⟨ad, rfl, _, hx⟩ := us_cell (hr.below hB) hlt
      have hx64 := hide64 _ (hbd.lat k)
      obtain ⟨x, ex⟩ : ∃ x, x = lat l k := ⟨_, rfl⟩
      rw [← ex] at hx hx64
      have Hs : Hid (hv (l.take (k + 1)) = l' ++ [x % H32, x / H32]) := by rw [Hid, hv_take_succ l k hlt, hl'.out, ex]
      obtain ⟨q, eq⟩ : ∃ q, q = x / H32 := ⟨_, rfl⟩
      obtain ⟨r, er⟩ : ∃ r, r = x % H32 := ⟨_, rfl⟩
      rw [← eq, ← er] at Hs
      have t1 : ((x : Nat) : Int).tmod 4294967296 = (r : Int) := by rw [Int.tmod_eq_emod_of_nonneg (by omega), hmod, er]
      have t2 : IntKind.u64.wrap (((x : Nat) : Int) / 4294967296) = (q : Int) := by rw [hdiv, ← eq, IntKind.wrap_u64]; unfold H32 at eq; omega
      clear ex eq er
      go_wp2
      go_region_law (refine step_append_any _ rfl (.tmp 12) (.tmp 23) _ rfl w.heap.size 84 i0 _ 1 8 Try.underlying35 hi hz0 hz1 hz2 rfl (by omega) _ _ _ rfl (hown.drew.alloc _) (wr.heap.size + 1) (some ⟨wr.heap.size, 0, none⟩) 2 2 (us [r, q]) rfl (by exact Reads.fresh wr.drew _ _ 2 rfl) (us_one _) (by unfold maxLen; omega) (by omega) (by simp; exact Nat.le_succ_of_le hB.size) ?_; intro v' w1 hown' hgrow hat)
      all_goals
        go_wp2
        refine ⟨⟨k + 1, l' ++ [r, q], by omega, by go_num, by rw [Hid]; exact Hs.out.symm, by simp; omega, by rw [us_append, List.length_append]; exact hown', ?_⟩, by simp [intOf]; omega⟩
        exact ((hB.drew).alloc hB.size _).grown hgrow (by simp; exact Nat.le_succ_of_le hB.size) (fun j e => (hown.lt j e).1)
    · obtain rfl : k = l.length := by omega
      go_wp2
      go_ret
      have e := hl'.out
      rw [List.take_length] at e
      exact ⟨_, rfl, e ▸ IsL.of_own hown (e ▸ (hv_bh l hbd).bd), hB⟩
end Go.Proofs.Ytbnnonmkkkhepaa
namespace Go.Proofs.Ytbnnonmkkkhepaa
open Go.RowKit

/-- a slice that reads as figures of 32 bits -/
def IsH (w : World) (v : Value) (l : List Nat) : Prop := IsL w v l ∧ Bh l
theorem IsL.bd {w : World} {v : Value} {l : List Nat} (h : IsL w v l) : Bd l := by obtain ⟨_, _, _, _, _, h, _⟩ := h; exact h
theorem hbound {l : List Nat} (h : Bh l) (i : Nat) : ((lat l i : Nat) : Int) ≤ 4294967295 := by have := h.lat i; unfold H32 at this; omega

set_option maxHeartbeats 1000000 in
theorem whole_f (v : Value) (l : List Nat) (w : World) (h : IsL w v l) (hh : Bh l) (hl : l.length ≤ 5000000) :
    Calls Try.prog 52 #[v] w fun e w' => ∃ v', e = .returned v' ∧ IsN w' v' (nuh l) ∧ Below w.heap.size w w' ∧ Fresh w.heap.size v' := by
  obtain ⟨A, c, rfl, hlc, hc, hbd, hr⟩ := h
  have hown0 := World.ownsRow_lit w #[] 0 (base := w.heap.size) (e := 84) (size := 1) (Nat.le_refl _) (by unfold maxLen; omega) rfl
  go_enter Try.func52, Try.ntmps52
  go_wp2
  go_loopw [3, 4] (fun o i wr => ∃ (k : Nat) (l' : List Nat), 2 * k ≤ l.length + 1 ∧ i = .int .i64 (2 * (k : Int)) ∧ Hid (l' = wh l k) ∧ l'.length ≤ k ∧ wr.ownsRow w.heap.size 84 1 o l'.length (us l') ∧ Below w.heap.size w wr) (fun _ i _ => l.length + 1 - (intOf i).toNat)
  case atStart => exact ⟨0, [], by omega, rfl, Lib.hid rfl, Nat.le_refl _, hown0, (Below.refl _ w).alloc (Nat.le_refl _) _⟩
  case round =>
    obtain ⟨k, l', hk, rfl, hl', hll, hown, hB⟩ := hrel
    by_cases hlt : 2 * k < l.length
    · obtain ⟨ad, rfl, _, hx⟩ := us_cell (hr.below hB) hlt
      have hx64 := hbound hh (2 * k)
      have Hs : Hid (wh l (k + 1) = l' ++ [lat l (2 * k) + lat l (2 * k + 1) * H32]) := by rw [Hid, wh, hl'.out]
      by_cases h2 : 2 * k + 1 < l.length
      · obtain ⟨_, e, _, hy⟩ := us_cell (hr.below hB) h2
        obtain rfl := Option.some.inj e
        rw [Addr.add, if_neg (by omega)] at hy
        have hy64 := hbound hh (2 * k + 1)
        go_wp2_with (at_builtin; go_must (refine wpList_app1 _ rfl _ _ 36 84 (.int .u64 0) 8 rfl Try.underlying36 info_u64 rfl w.heap.size (.int .u64 (((lat l (2 * k) : Nat) : Int) + ((lat l (2 * k + 1) : Nat) : Int) * 4294967296)) rfl _ l'.length (us l') rfl (hown.alloc _) ⟨wr.heap.size, 0, none⟩ rfl (by simp) (by omega) (by omega) (by simp; exact Nat.le_succ_of_le hB.size) ?_; intro v' w1 hown' hgrow))
        refine ⟨⟨k + 1, l' ++ [lat l (2 * k) + lat l (2 * k + 1) * H32], by omega, by go_num, Hs.out.symm, by simp; omega, ?_, (hB.alloc hB.size _).grown hgrow (by simp; exact Nat.le_succ_of_le hB.size) (fun j e => (hown.lt j e).1)⟩, by simp [intOf]; omega⟩
        rw [us_snoc, List.length_append, List.length_singleton, show ((lat l (2 * k) + lat l (2 * k + 1) * H32 : Nat) : Int) = ((lat l (2 * k) : Nat) : Int) + ((lat l (2 * k + 1) : Nat) : Int) * 4294967296 from by unfold H32; omega]
        exact hown'
      · go_wp2_with (at_builtin; go_must (refine wpList_app1 _ rfl _ _ 36 84 (.int .u64 0) 8 rfl Try.underlying36 info_u64 rfl w.heap.size (.int .u64 ((lat l (2 * k) : Nat) : Int)) rfl _ l'.length (us l') rfl (hown.alloc _) ⟨wr.heap.size, 0, none⟩ rfl (by simp) (by omega) (by omega) (by simp; exact Nat.le_succ_of_le hB.size) ?_; intro v' w1 hown' hgrow))
        refine ⟨⟨k + 1, l' ++ [lat l (2 * k) + lat l (2 * k + 1) * H32], by omega, by go_num, Hs.out.symm, by simp; omega, ?_, (hB.alloc hB.size _).grown hgrow (by simp; exact Nat.le_succ_of_le hB.size) (fun j e => (hown.lt j e).1)⟩, by simp [intOf]; omega⟩
        rw [us_snoc, List.length_append, List.length_singleton, show lat l (2 * k + 1) = 0 from lat_ge (by omega), Nat.zero_mul, Nat.add_zero]
        exact hown'
    · have hres : IsL wr u3 (wh l k) := by rw [← hl'.out]; exact IsL.of_own hown (hl'.out ▸ wh_bd l hh k)
      have hnum := num_wh l k
      rw [nuh_take_ge l _ (by omega)] at hnum
      have Hn := Lib.hid hnum
      clear hnum
      go_wp2_with fail
      refine (rbare_f _ _ _ hres (by rw [wh_len]; omega)).mono ?_
      rintro e w' ⟨r, rfl, hr, hb, hf⟩
      go_wp2
      go_ret
      exact ⟨_, rfl, by rw [← Hn.out]; exact hr, hB.trans (hb.mono hB.size), hf.more hB.size⟩

theorem whole_any (v : Value) (l : List Nat) (w : World) (h : IsL w v l) (hh : Bh l) (hl : l.length ≤ 5000000) :
    Calls Try.prog 52 #[v] w fun e w' => ∃ v', e = .returned v' ∧ IsN w' v' (nuh l) ∧ Below w.heap.size w w' :=
  (whole_f v l w h hh hl).mono fun _ _ ⟨v', h1, h2, h3, _⟩ => ⟨v', h1, h2, h3⟩

theorem halves2 (va : Value) (a : List Nat) (w : World) (ha : IsL w va a) (hl : a.length ≤ 1000000) :
    Calls Try.prog 51 #[va] w fun e w' => ∃ (A : Option Addr) (c : Nat), e = .returned (.slice A (hv a).length c) ∧ ((hv a).length ≤ c ∧ c ≤ 9223372036854775807) ∧ Bh (hv a) ∧ Reads w' w'.heap.size 1 A (hv a).length (us (hv a)) ∧ Below w.heap.size w w' :=
  (halves_any va a w ha hl).mono fun e w' ⟨v', he, ⟨A, c, h1, h2, h3, h4, h5⟩, hb⟩ => ⟨A, c, by rw [he, h1], ⟨h2, h3⟩, hv_bh a ha.bd, h5, hb⟩

set_option maxHeartbeats 2000000 in
theorem radd_f (va vb : Value) (a b : Nat) (w : World) (ha : IsN w va a) (hb : IsN w vb b) (hla : (limbs a).length ≤ 1000000) (hlb : (limbs b).length ≤ 1000000) :
    Calls Try.prog 48 #[va, vb] w fun e w' => ∃ v', e = .returned v' ∧ IsN w' v' (a + b) ∧ Below w.heap.size w w' ∧ Fresh w.heap.size v' := by
  have eab : nuh (hv (limbs a)) + nuh (hv (limbs b)) = a + b := by rw [nuh_hv, nuh_hv, num_limbs, num_limbs]
  have HA := Lib.hid (halves2 va _ w ha hla)
  have HB := Lib.hid (fun W (h : Below w.heap.size w W) => halves2 vb _ W (hb.below h) hlb)
  have la := hv_len (limbs a)
  have lb := hv_len (limbs b)
  rw [← eab]
  obtain ⟨x, hx⟩ : ∃ x, x = hv (limbs a) := ⟨_, rfl⟩
  obtain ⟨y, hy⟩ : ∃ y, y = hv (limbs b) := ⟨_, rfl⟩
  rw [← hx] at HA la ⊢
  rw [← hy] at HB lb ⊢
  have lx : x.length ≤ 2000000 := by omega
  have ly : y.length ≤ 2000000 := by omega
  clear hx hy eab la lb ha hb
  go_enter Try.func48, Try.ntmps48
  go_wp2_with fail
  refine HA.out.mono ?_
  rintro e w1 ⟨A, ca, rfl, hca, hxb, hrx, hb1⟩
  go_wp2_with fail
  refine (HB.out _ hb1).mono ?_
  rintro e w2 ⟨B, cb, rfl, hcb, hyb, hry, hb2⟩
  have hrx := (hrx.below hb2).more hb2.size
  have hbw := hb1.trans (hb2.mono hb1.size)
  obtain ⟨m, hm⟩ : ∃ m, m = max x.length y.length := ⟨_, rfl⟩
  have hmax := fun t y' W => run_max_nat (P := Try.prog) t y' W x.length y.length
  rw [← hm] at hmax
  have E := haddTo_end x y hxb hyb
  rw [← hm] at E
  have E' := Lib.hid E
  have hmm : m ≤ 2000000 := by omega
  clear hm E
  have hown0 := World.ownsRow_lit w2 #[] 0 (base := w2.heap.size) (e := 84) (size := 1) (Nat.le_refl _) (by unfold maxLen; omega) rfl
  go_wp2
  go_loopw [7, 8, 9] (fun o cy i wr => ∃ (k c : Nat) (l' : List Nat), k ≤ m + 1 ∧ i = .int .i64 k ∧ cy = .int .u64 c ∧ Hid ((l', c) = haddTo x y k) ∧ l'.length ≤ k ∧ wr.ownsRow w2.heap.size 84 1 o l'.length (us l') ∧ Below w2.heap.size w2 wr) (fun _ _ i _ => m + 1 - (intOf i).toNat)
  case atStart => exact ⟨0, 0, [], by omega, rfl, rfl, Lib.hid rfl, Nat.le_refl _, hown0, (Below.refl _ w2).alloc (Nat.le_refl _) _⟩
  case round =>
    obtain ⟨k, c, l', hk, rfl, rfl, hl', hll, hown, hB⟩ := hrel
    obtain ⟨o1, o2, o3, o4⟩ := haddTo_ok x y hxb hyb k
    rw [← hl'.out] at o3 o4
    dsimp only at o3 o4
    clear o1 o2
    by_cases hlt : k < m + 1
    · have hx64 := hbound hxb k
      have hy64 := hbound hyb k
      have Hs : Hid ((l' ++ [(lat x k + lat y k + c) % H32], (lat x k + lat y k + c) / H32) = haddTo x y (k + 1)) := by rw [Hid, haddTo, ← hl'.out]; rfl
      have CA := Lib.hid (rat_any (.slice A x.length ca) x k wr ⟨A, ca, rfl, hca.1, hca.2, hxb.bd, (hrx.below hB).more hB.size⟩)
      have CB := Lib.hid (rat_any (.slice B y.length cb) y k wr ⟨B, cb, rfl, hcb.1, hcb.2, hyb.bd, (hry.below hB).more hB.size⟩)
      go_wp2_with fail
      refine CA.out.mono ?_
      rintro e w' ⟨rfl, rfl⟩
      go_wp2_with fail
      refine CB.out.mono ?_
      rintro e w' ⟨rfl, rfl⟩
      go_wp2_with (at_builtin; go_must (refine wpList_app1 _ rfl _ _ 35 84 (.int .u64 0) 8 rfl Try.underlying35 info_u64 rfl w2.heap.size (.int .u64 ((((lat x k : Nat) : Int) + ((lat y k : Nat) : Int) + (c : Int)) % 4294967296)) rfl _ l'.length (us l') rfl (hown.alloc _) ⟨wr.heap.size, 0, none⟩ rfl (by simp) (by omega) (by omega) (by simp; exact Nat.le_succ_of_le hB.size) ?_; intro v' w1 hown' hgrow))
      refine ⟨⟨k + 1, (lat x k + lat y k + c) / H32, l' ++ [(lat x k + lat y k + c) % H32], by omega, by go_num, ?_, Hs, by simp; omega, ?_, (hB.alloc hB.size _).grown hgrow (by simp; exact Nat.le_succ_of_le hB.size) (fun j e => (hown.lt j e).1)⟩, by simp [intOf]; omega⟩
      · rw [show ((lat x k : Nat) : Int) + ((lat y k : Nat) : Int) + (c : Int) = ((lat x k + lat y k + c : Nat) : Int) from by omega, hdiv]
      · rw [us_snoc, List.length_append, List.length_singleton, ← hmod, show ((lat x k + lat y k + c : Nat) : Int) = ((lat x k : Nat) : Int) + ((lat y k : Nat) : Int) + (c : Int) from by omega]
        exact hown'
    · obtain rfl : k = m + 1 := by omega
      have el : l' = (haddTo x y (m + 1)).1 := by rw [← hl'.out]
      have hres : IsL wr u7 l' := IsL.of_own hown o4.bd
      have en : nuh l' = nuh x + nuh y := by rw [el]; exact E'.out
      have En := Lib.hid en
      clear en el o3
      go_wp2_with fail
      refine (whole_f _ l' _ hres o4 (by omega)).mono ?_
      rintro e w' ⟨r, rfl, hr, hb, hf⟩
      go_wp2
      go_ret
      exact ⟨_, rfl, by rw [← En.out]; exact hr, (hbw.trans (hB.mono hbw.size)).trans (hb.mono (Nat.le_trans hbw.size hB.size)), hf.more (Nat.le_trans hbw.size hB.size)⟩
theorem radd_any (va vb : Value) (a b : Nat) (w : World) (ha : IsN w va a) (hb : IsN w vb b) (hla : (limbs a).length ≤ 1000000) (hlb : (limbs b).length ≤ 1000000) :
    Calls Try.prog 48 #[va, vb] w fun e w' => ∃ v', e = .returned v' ∧ IsN w' v' (a + b) ∧ Below w.heap.size w w' :=
  (radd_f va vb a b w ha hb hla hlb).mono fun _ _ ⟨v', h1, h2, h3, _⟩ => ⟨v', h1, h2, h3⟩
end Go.Proofs.Ytbnnonmkkkhepaa
