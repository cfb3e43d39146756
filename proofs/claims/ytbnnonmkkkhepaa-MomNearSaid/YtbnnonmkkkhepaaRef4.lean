/- Walks of the reference's Sub and Mul. -/
import Derived.Test.YtbnnonmkkkhepaaRef2
import Derived.Test.YtbnnonmkkkhepaaSmall
namespace Go.Proofs.Ytbnnonmkkkhepaa
open Go.RowKit

theorem new_cell (w : World) (t : TypeId) (u : Value) : (w.alloc (.cells #[u] t)).cell? ⟨w.heap.size, 0, none⟩ = some u := by rw [World.cell?_alloc_at _ _ _ _ rfl]; rfl
theorem own_drewN {w : World} {base : Nat} {e : TypeId} {size : Nat} {v : Value} {n : Nat} {xs : List Value} (h : w.ownsRow base e size v n xs) (k : Nat) : (w.drewN k).ownsRow base e size v n xs := h
theorem IsL.drewN {w : World} {v : Value} {l : List Nat} (h : IsL w v l) (n : Nat) : IsL (w.drewN n) v l := h.below (below_drewN (Below.refl _ _) n)
set_option maxHeartbeats 400000 in
theorem rsub_less (va vb : Value) (a b : Nat) (w : World) (ha : IsN w va a) (hb : IsN w vb b) (h : a < b) :
    Calls Try.prog 50 #[va, vb] w fun e w' => e = .returned (.tuple #[.slice none 0 0, .int .i64 2]) ∧ Below w.heap.size w w' := by
  have hc := rcmp_any va vb _ _ w ha hb
  rw [cmpL_limbs, cmpI_lt (by omega)] at hc
  have C := Lib.hid hc
  clear hc
  go_enter Try.func50, Try.ntmps50
  go_wp2_with fail
  refine C.out.mono ?_
  rintro e w1 ⟨rfl, n, rfl⟩
  go_wp2
  go_ret2
  exact ⟨rfl, below_drewN (Below.refl _ _) n⟩

set_option maxHeartbeats 2000000 in
theorem rsub_f (va vb : Value) (a b : Nat) (w : World) (ha : IsN w va a) (hb : IsN w vb b) (hla : (limbs a).length ≤ 1000000) (hlb : (limbs b).length ≤ 1000000) (hle : b ≤ a) :
    Calls Try.prog 50 #[va, vb] w fun e w' => ∃ v', e = .returned (.tuple #[v', .int .i64 0]) ∧ IsN w' v' (a - b) ∧ Below w.heap.size w w' ∧ Fresh w.heap.size v' := by
  have hc := rcmp_any va vb _ _ w ha hb
  rw [cmpL_limbs] at hc
  have C := Lib.hid hc
  have hcmp : ¬ (cmpI (a : Int) (b : Int) < 0) := by unfold cmpI; split <;> (try split) <;> omega
  have hcm2 : decide (cmpI (a : Int) (b : Int) < 0) = false := decide_eq_false hcmp
  clear hc hcmp
  have eab : nuh (hv (limbs a)) - nuh (hv (limbs b)) = a - b := by rw [nuh_hv, nuh_hv, num_limbs, num_limbs]
  have hle' : nuh (hv (limbs b)) ≤ nuh (hv (limbs a)) := by rw [nuh_hv, nuh_hv, num_limbs, num_limbs]; exact hle
  have HA := Lib.hid (fun W (h : Below w.heap.size w W) => halves2 va _ W (ha.below h) hla)
  have HB := Lib.hid (fun W (h : Below w.heap.size w W) => halves2 vb _ W (hb.below h) hlb)
  have la := hv_len (limbs a)
  have lb := hv_len (limbs b)
  have hyx : (hv (limbs b)).length ≤ (hv (limbs a)).length := by rw [la, lb]; have := limbs_len_mono hle; omega
  rw [← eab]
  obtain ⟨x, hx⟩ : ∃ x, x = hv (limbs a) := ⟨_, rfl⟩
  obtain ⟨y, hy⟩ : ∃ y, y = hv (limbs b) := ⟨_, rfl⟩
  rw [← hx] at HA la hle' hyx ⊢
  rw [← hy] at HB lb hle' hyx ⊢
  have lx : x.length ≤ 2000000 := by omega
  have ly : y.length ≤ 2000000 := by omega
  clear hx hy eab la lb ha hb
  go_enter Try.func50, Try.ntmps50
  go_wp2_with fail
  refine C.out.mono ?_
  rintro e w0 ⟨rfl, n, rfl⟩
  have hb0 := below_drewN (Below.refl w.heap.size w) n
  go_wp2_with fail
  refine (HA.out _ hb0).mono ?_
  rintro e w1 ⟨A, ca, rfl, hca, hxb, hrx, hb1⟩
  have hb1 := hb0.trans (hb1.mono hb0.size)
  go_wp2_with fail
  refine (HB.out _ hb1).mono ?_
  rintro e w2 ⟨B, cb, rfl, hcb, hyb, hry, hb2⟩
  have hrx := (hrx.below hb2).more hb2.size
  have hbw := hb1.trans (hb2.mono hb1.size)
  have E' := Lib.hid (hsubTo_end x y hxb hyb hyx hle')
  have hown0 := World.ownsRow_lit w2 #[] 0 (base := w2.heap.size) (e := 84) (size := 1) (Nat.le_refl _) (by unfold maxLen; omega) rfl
  go_wp2
  go_loopw [8, 9, 10] (fun o cy i wr => ∃ (k c : Nat) (l' : List Nat), k ≤ x.length ∧ i = .int .i64 k ∧ cy = .int .u64 c ∧ Hid ((l', c) = hsubTo x y k) ∧ l'.length ≤ k ∧ wr.ownsRow w2.heap.size 84 1 o l'.length (us l') ∧ Below w2.heap.size w2 wr) (fun _ _ i _ => x.length - (intOf i).toNat)
  case atStart => exact ⟨0, 0, [], by omega, rfl, rfl, Lib.hid rfl, Nat.le_refl _, hown0, (Below.refl _ w2).alloc (Nat.le_refl _) _⟩
  case round =>
    obtain ⟨k, c, l', hk, rfl, rfl, hl', hll, hown, hB⟩ := hrel
    obtain ⟨o1, o2, o3, o4⟩ := hsubTo_ok x y hxb hyb k
    rw [← hl'.out] at o3 o4
    dsimp only at o3 o4
    clear o1 o2
    by_cases hlt : k < x.length
    · have hx64 := hxb.lat k
      have hy64 := hyb.lat k
      have Hs : Hid ((l' ++ [(H32 + lat x k - lat y k - c) % H32], 1 - (H32 + lat x k - lat y k - c) / H32) = hsubTo x y (k + 1)) := by rw [Hid, hsubTo, ← hl'.out]; rfl
      have CB := Lib.hid (fun n => rat_any (.slice B y.length cb) y k (wr.drewN n) (IsL.drewN ⟨B, cb, rfl, hcb.1, hcb.2, hyb.bd, (hry.below hB).more hB.size⟩ n))
      obtain ⟨ad, rfl, _, hxc⟩ := us_cell (hrx.below hB) hlt
      obtain ⟨xk, ex⟩ : ∃ xk, xk = lat x k := ⟨_, rfl⟩
      obtain ⟨yk, ey⟩ : ∃ yk, yk = lat y k := ⟨_, rfl⟩
      rw [← ex] at hxc Hs hx64
      rw [← ey] at CB Hs hy64
      obtain ⟨s1, e1⟩ : ∃ s1, s1 = H32 + xk := ⟨_, rfl⟩
      obtain ⟨s2, e2⟩ : ∃ s2, s2 = s1 - yk := ⟨_, rfl⟩
      obtain ⟨s3, e3⟩ : ∃ s3, s3 = s2 - c := ⟨_, rfl⟩
      rw [← e1, ← e2, ← e3] at Hs
      have t1 : IntKind.u64.wrap (4294967296 + (xk : Int)) = (s1 : Int) := by rw [IntKind.wrap_u64]; unfold H32 at *; omega
      have t2 : IntKind.u64.wrap ((s1 : Int) - (yk : Int)) = (s2 : Int) := by rw [IntKind.wrap_u64]; unfold H32 at *; omega
      have t3 : IntKind.u64.wrap ((s2 : Int) - (c : Int)) = (s3 : Int) := by rw [IntKind.wrap_u64]; unfold H32 at *; omega
      have b3 : (s3 : Int) ≤ 8589934591 := by unfold H32 at *; omega
      clear ex ey e1 e2 e3 hx64 hy64
      go_wp2
      go_quiet ((go_at_call 71; exact quiet_left (CB.out _)))
      go_wp2_with (at_builtin; go_must (refine wpList_app1 _ rfl _ _ 35 84 (.int .u64 0) 8 rfl Try.underlying35 info_u64 rfl w2.heap.size (.int .u64 ((s3 : Int) % 4294967296)) rfl _ l'.length (us l') rfl ((own_drewN hown _).alloc _) ⟨wr.heap.size, 0, none⟩ rfl (by exact new_cell _ _ _) (by omega) (by omega) (by simp; exact Nat.le_succ_of_le hB.size) ?_; intro v' w1 hown' hgrow))
      refine ⟨⟨k + 1, 1 - s3 / H32, l' ++ [s3 % H32], by omega, by go_num, ?_, Hs, by simp; omega, ?_, ((below_drewN hB _).alloc hB.size _).grown hgrow (by simp; exact Nat.le_succ_of_le hB.size) (fun j e => (hown.lt j e).1)⟩, by simp [intOf]; omega⟩
      · rw [hdiv]
        have hq : s3 / H32 ≤ 1 := by unfold H32; omega
        rw [show ((1 - s3 / H32 : Nat) : Int) = 1 - ((s3 / H32 : Nat) : Int) from by omega]
      · rw [us_snoc, List.length_append, List.length_singleton, ← hmod]
        exact hown'
    · obtain rfl : k = x.length := by omega
      have el : l' = (hsubTo x y x.length).1 := by rw [← hl'.out]
      have hres : IsL wr u8 l' := IsL.of_own hown o4.bd
      have en : nuh l' = nuh x - nuh y := by rw [el]; exact E'.out
      have En := Lib.hid en
      clear en el o3
      go_wp2_with fail
      refine (whole_f _ l' _ hres o4 (by omega)).mono ?_
      rintro e w' ⟨r, rfl, hr, hb, hf⟩
      go_wp2
      go_ret2
      exact ⟨_, rfl, by rw [← En.out]; exact hr, (hbw.trans (hB.mono hbw.size)).trans (hb.mono (Nat.le_trans hbw.size hB.size)), hf.more (Nat.le_trans hbw.size hB.size)⟩
theorem rsub_any (va vb : Value) (a b : Nat) (w : World) (ha : IsN w va a) (hb : IsN w vb b) (hla : (limbs a).length ≤ 1000000) (hlb : (limbs b).length ≤ 1000000) (hle : b ≤ a) :
    Calls Try.prog 50 #[va, vb] w fun e w' => ∃ v', e = .returned (.tuple #[v', .int .i64 0]) ∧ IsN w' v' (a - b) ∧ Below w.heap.size w w' :=
  (rsub_f va vb a b w ha hb hla hlb hle).mono fun _ _ ⟨v', h1, h2, h3, _⟩ => ⟨v', h1, h2, h3⟩

set_option maxRecDepth 100000 in
set_option maxHeartbeats 2000000 in
theorem rmul_any (va vb : Value) (na nb : Nat) (w : World) (ha : IsN w va na) (hb : IsN w vb nb) (hla : (limbs na).length ≤ 1000000) (hlb : (limbs nb).length ≤ 1000000) :
    Calls Try.prog 30 #[va, vb] w fun e w' => ∃ v', e = .returned v' ∧ IsN w' v' (na * nb) ∧ Below w.heap.size w w' := by
  have eab : nuh (hv (limbs na)) * nuh (hv (limbs nb)) = na * nb := by rw [nuh_hv, nuh_hv, num_limbs, num_limbs]
  have HA := Lib.hid (halves2 va _ w ha hla)
  have HB := Lib.hid (fun W (h : Below w.heap.size w W) => halves2 vb _ W (hb.below h) hlb)
  have la := hv_len (limbs na)
  have lb := hv_len (limbs nb)
  rw [← eab]
  obtain ⟨a, hx⟩ : ∃ x, x = hv (limbs na) := ⟨_, rfl⟩
  obtain ⟨b, hy⟩ : ∃ y, y = hv (limbs nb) := ⟨_, rfl⟩
  rw [← hx] at HA la ⊢
  rw [← hy] at HB lb ⊢
  have lx : a.length ≤ 2000000 := by omega
  have ly : b.length ≤ 2000000 := by omega
  clear hx hy eab la lb ha hb
  have hmk := run_make_u64 35 Try.underlying35 (a.length + b.length + 1) ((a.length : Int) + (b.length : Int) + 1) (by omega) (by omega)
  go_enter Try.func30, Try.ntmps30
  go_wp2_with fail
  refine HA.out.mono ?_
  rintro e w1 ⟨A, ca, rfl, hca, hba, hra, hb1⟩
  go_wp2_with fail
  refine (HB.out _ hb1).mono ?_
  rintro e w2 ⟨B, cb, rfl, hcb, hbb, hrb, hb2⟩
  have hra := (hra.below hb2).more hb2.size
  have hbw := hb1.trans (hb2.mono hb1.size)
  clear hb1 hb2
  have a0 := Arr.new w2 (zeros (a.length + b.length + 1))
  have hB0 : Below w2.heap.size w2 (w2.alloc (.cells (us (zeros (a.length + b.length + 1))).toArray 84)) := (Below.refl _ w2).alloc (Nat.le_refl _) _
  go_wp2
  go_loopw [8] (fun i wr => ∃ (k : Nat) (l : List Nat), k ≤ a.length ∧ i = .int .i64 k ∧ Arr wr w2.heap.size l ∧ Hid (l.length = a.length + b.length + 1) ∧ Bh l ∧ Hid (nuh l = nuh (a.take k) * nuh b) ∧ Hid (∀ j, k + b.length ≤ j → lat l j = 0) ∧ Below w2.heap.size w2 wr) (fun i _ => a.length - (intOf i).toNat)
  case atStart => exact ⟨0, zeros (a.length + b.length + 1), Nat.zero_le _, rfl, a0, zeros_len _, Bh.zeros _, Lib.hid (by rw [nuh_zeros]; simp [nuh]), Lib.hid (fun j _ => lat_zeros _ _), hB0⟩
  case round =>
    obtain ⟨k, l, hk, rfl, hA, hlen, hbl, hnum, hz, hB⟩ := hrel
    by_cases hlt : k < a.length
    · obtain ⟨ad, rfl, _, hxc⟩ := us_cell (hra.below hB) hlt
      have hx64 := hba.lat k
      have hxi := hbound hba k
      obtain ⟨x, hx⟩ : ∃ x, x = lat a k := ⟨_, rfl⟩
      rw [← hx] at hxc hx64 hxi
      have Hx := Lib.hid hx
      clear hx
      go_wp2
      go_loopw [9, 10] (fun cy i wi => ∃ (m c : Nat) (l' : List Nat), m ≤ b.length ∧ cy = .int .u64 c ∧ i = .int .i64 m ∧ c < H32 ∧ Arr wi w2.heap.size l' ∧ Hid (l'.length = a.length + b.length + 1) ∧ Bh l' ∧ Hid (nuh l' + H32 ^ (k + m) * c = nuh (a.take k) * nuh b + H32 ^ k * (x * nuh (b.take m))) ∧ Hid (∀ j, k + b.length ≤ j → lat l' j = 0) ∧ Below w2.heap.size w2 wi) (fun _ i _ => b.length - (intOf i).toNat)
      case atStart => exact ⟨0, 0, l, Nat.zero_le _, rfl, rfl, H32_pos, hA, hlen, hbl, Lib.hid (by rw [hnum.out]; simp [nuh]), hz, hB⟩
      case round =>
        obtain ⟨m, c, l', hm, rfl, rfl, hc64, hA', hlen', hbl', hinv, hz', hB'⟩ := hrel
        by_cases hmt : m < b.length
        · obtain ⟨bd, rfl, _, hyc⟩ := us_cell (hrb.below hB') hmt
          obtain ⟨_, e, _, hxc'⟩ := us_cell (hra.below hB') hlt
          obtain rfl := Option.some.inj e
          have hy64 := hbb.lat m
          obtain ⟨y, hy⟩ : ∃ y, y = lat b m := ⟨_, rfl⟩
          rw [← hy] at hyc hy64
          rw [← Hx.out] at hxc'
          have hoc := hA'.cell (i := k + m) (by rw [hlen'.out]; omega)
          have hof := hA'.frozen (k + m)
          have ho64 := hbl'.lat (k + m)
          obtain ⟨o, ho⟩ : ∃ o, o = lat l' (k + m) := ⟨_, rfl⟩
          rw [← ho] at hoc ho64
          obtain ⟨p, ep⟩ : ∃ p, p = x * y := ⟨_, rfl⟩
          obtain ⟨q, eq⟩ : ∃ q, q = o + p := ⟨_, rfl⟩
          obtain ⟨n, en⟩ : ∃ n, n = q + c := ⟨_, rfl⟩
          obtain ⟨d1, d2, d3, d4⟩ := hmul_digit hx64 hy64 ho64 hc64 (n := n) (by rw [en, eq, ep])
          rw [← ep] at d4
          have w0 : IntKind.u64.wrap ((x : Int) * (y : Int)) = (p : Int) := by
            rw [IntKind.wrap_u64, ← Int.natCast_mul, ← ep]; unfold W64 at d4; omega
          have w1 : IntKind.u64.wrap ((o : Int) + (p : Int)) = (q : Int) := by
            rw [IntKind.wrap_u64, eq]; unfold W64 at d4; omega
          have w2' : IntKind.u64.wrap ((q : Int) + (c : Int)) = (n : Int) := by
            rw [IntKind.wrap_u64, en]; unfold W64 at d1; omega
          have fin := Lib.hid (hmul_inner (i := k) (by rw [hlen'.out]; omega) ho hinv.out (by rw [← hy]; exact d2))
          have D := Lib.hid d3
          have hn64 := hide64 n d1
          clear ep eq en d1 d2 d3 d4 hx64 hy64 ho64 hc64 ho hy hinv
          go_wp2
          go_quiet (fail)
          go_wp2
          rw [hdiv, hmod]
          refine ⟨⟨m + 1, n / H32, l'.set (k + m) (n % H32), by omega, rfl, by go_num, D.out, (hA'.drewN _).set _ _, by rw [Hid, List.length_set]; exact hlen'.out, hbl'.set _ (Nat.mod_lt _ H32_pos), fin, ?_, (below_drewN hB' _).setCell (p := ⟨w2.heap.size, k + m, none⟩) (Nat.le_refl _) _⟩, by simp [intOf]; omega⟩
          refine Lib.hid (fun j hj => ?_)
          rw [lat_set, if_neg (by omega)]
          exact hz'.out j hj
        · obtain rfl : m = b.length := by omega
          have hi2 : k + b.length < l'.length := by rw [hlen'.out]; omega
          have hoc := hA'.cell hi2
          have hof := hA'.frozen (k + b.length)
          have fin := hmul_outer (a := a) (b := b) (i := k) (c := c) hi2 (hz'.out _ (Nat.le_refl _)) (by have := hinv.out; rwa [List.take_length, Hx.out] at this)
          have Fin := Lib.hid fin
          have C := Lib.hid hc64
          clear fin hi2 hc64
          go_wp2
          refine ⟨⟨k + 1, l'.set (k + b.length) c, by omega, by go_num, hA'.set _ _, by rw [Hid, List.length_set]; exact hlen'.out, hbl'.set _ C.out, Fin, ?_, hB'.setCell (p := ⟨w2.heap.size, k + b.length, none⟩) (Nat.le_refl _) _⟩, by simp [intOf]; omega⟩
          refine Lib.hid (fun j hj => ?_)
          rw [lat_set, if_neg (by omega)]
          exact hz'.out j (by omega)
    · obtain rfl : k = a.length := by omega
      have hres := hA.isL hbl.bd (by rw [hlen.out]; omega)
      have hl3 : l.length ≤ 5000000 := by rw [hlen.out]; omega
      rw [hlen.out] at hres
      have N := hnum.out
      rw [List.take_length] at N
      have N' := Lib.hid N
      clear N
      go_wp2_with fail
      refine (whole_any _ l _ hres hbl hl3).mono ?_
      rintro e w' ⟨r, rfl, hr, hb⟩
      go_wp2
      go_ret
      exact ⟨_, rfl, by rw [← N'.out]; exact hr, (hbw.trans (hB.mono hbw.size)).trans (hb.mono (Nat.le_trans hbw.size hB.size))⟩
end Go.Proofs.Ytbnnonmkkkhepaa
