/- The document's answers of layer 9: small functions. -/
import Derived.Test.YtochabikpaoalaaGreatBook5
import Derived.Deep.RegionWith
namespace Go.Proofs.YtochabikpaoalaaGreat
open Go.RowKit Go.Shelf

set_option maxHeartbeats 400000 in
theorem rsigned_any (k : Int) (w : World) : Calls Tryz.prog 86 #[.int .i64 k] w fun e w' => e = .returned (.bool (sgn k)) ∧ w = w' := by
  rcases kind_cases k with rfl | rfl | rfl | rfl | ⟨h0, h1, h2, h3⟩
  all_goals
    go_enter Tryz.func86, Tryz.ntmps86
    go_wp2
    go_ret
  all_goals first | exact ⟨rfl, rfl⟩ | exact ⟨ret_bool (by simp [sgn, h0, h2]), rfl⟩
set_option maxHeartbeats 400000 in
theorem rden_any (k : Int) (w : World) : Calls Tryz.prog 43 #[.int .i64 k] w fun e w' => e = .returned (.int .i64 (den k)) ∧ w = w' := by
  rcases kind_cases k with rfl | rfl | rfl | rfl | ⟨h0, h1, h2, h3⟩
  all_goals
    go_enter Tryz.func43, Tryz.ntmps43
    go_wp2
    go_ret
  all_goals first | exact ⟨rfl, rfl⟩ | exact ⟨ret_int (by simp at h0 h1 h2 h3; simp [den, h0, h1, h2, h3]), rfl⟩
set_option maxHeartbeats 400000 in
theorem power_any (n k : Nat) (h1 : 1 ≤ n) (hn : n ≤ 10) (hk : k ≤ 10) (hb : n ^ k ≤ 4611686018427387904) (w : World) : Calls Tryz.prog 89 #[.int .i64 n, .int .i64 k] w fun e w' => e = .returned (.int .i64 ((n ^ k : Nat) : Int)) ∧ w = w' := by
  have hle : ∀ i, i ≤ k → n ^ i ≤ n ^ k := fun i hi => Nat.pow_le_pow_right h1 hi
  obtain ⟨pw, hpw⟩ : ∃ pw : Nat → Nat, ∀ i, n ^ i = pw i := ⟨fun i => n ^ i, fun _ => rfl⟩
  have hs : ∀ i, pw (i + 1) = pw i * n := fun i => by rw [← hpw, ← hpw, Nat.pow_succ]
  have h0 : pw 0 = 1 := by rw [← hpw]; rfl
  simp only [hpw] at hle hb ⊢
  go_enter Tryz.func89, Tryz.ntmps89
  go_wp2
  go_loopw [6, 5] (fun i o wr => ∃ (j p : Nat), j ≤ k ∧ i = .int .i64 j ∧ o = .int .i64 (p : Nat) ∧ Hid (p = pw j) ∧ wr = w) (fun i _ _ => k - (intOf i).toNat)
  case atStart => exact ⟨0, 1, by omega, rfl, rfl, Lib.hid h0.symm, rfl⟩
  case round =>
    obtain ⟨j, p, hj, rfl, rfl, hp, rfl⟩ := hrel
    by_cases hlt : j < k
    · have hq := hle (j + 1) hlt
      have hE : Hid (p * n = pw (j + 1)) := by rw [Hid, hs, hp.out]
      rw [← hE.out] at hq
      have hc : ((p * n : Nat) : Int) = (p : Int) * n := by simp
      obtain ⟨q, hqe⟩ : ∃ q : Nat, p * n = q := ⟨_, rfl⟩
      rw [hqe] at hq hc hE
      have hc' := hc.symm
      clear hc
      go_wp2
      refine ⟨⟨j + 1, q, by omega, by go_num, ?_, Lib.hid hE.out, trivial⟩, by simp [intOf]; omega⟩
      rfl
    · obtain rfl : j = k := by omega
      go_wp2
      go_ret
      exact ⟨by rw [hp.out]; rfl, rfl⟩
theorem ten_le (i : Nat) (hi : i ≤ 6) : 10 ^ i ≤ 1000000 := Nat.pow_le_pow_right (by omega) hi
theorem two_le (i : Nat) (hi : i ≤ 7) : 2 ^ i ≤ 128 := Nat.pow_le_pow_right (by omega) hi
set_option maxHeartbeats 1000000 in
theorem part_any (n i j : Nat) (h1 : 1 ≤ n) (hn : n ≤ 128) (hi : i ≤ 6) (hj : j < n) (w : World) : Calls Tryz.prog 71 #[.int .i64 n, .int .i64 i, .int .i64 j] w fun e w' => e = .returned (.int .i64 ((2 * (n : Int) + 9 * (2 * (j : Int) + 1)) * (128 / (n : Int)) * ((10 ^ i : Nat) : Int))) ∧ w' = w.drew := by
  have ht := ten_le i hi
  have hp := power_any 10 i (by omega) (by omega) (by omega) (by omega)
  generalize 10 ^ i = t at ht hp
  have hz : ((n : Int) == 0) = false := by simp; omega
  have hq1 : 128 / n ≤ 128 := Nat.div_le_self _ _
  have hq2 : (128 : Int) / (n : Int) = ((128 / n : Nat) : Int) := by simp
  have hq3 : (128 : Int).tdiv (n : Int) = ((128 / n : Nat) : Int) := by rw [Int.tdiv_eq_ediv_of_nonneg (by omega)]; exact hq2
  rw [hq2]
  generalize 128 / n = q at hq1 hq2 hq3
  have hs1 : (2 * n + 9 * (2 * j + 1)) * q ≤ 2560 * 128 := Nat.mul_le_mul (by omega) hq1
  have hs2 : (2 * n + 9 * (2 * j + 1)) * q * t ≤ 2560 * 128 * 1000000 := Nat.mul_le_mul hs1 ht
  obtain ⟨a, ha⟩ : ∃ a : Nat, a = 2 * n + 9 * (2 * j + 1) := ⟨_, rfl⟩
  have ha' : 2 * (n : Int) + 9 * (2 * (j : Int) + 1) = (a : Int) := by omega
  rw [← ha] at hs1 hs2
  have m1 : (a : Int) * (q : Int) = ((a * q : Nat) : Int) := by simp
  rw [ha', m1]
  generalize a * q = b at *
  have m2 : (b : Int) * (t : Int) = ((b * t : Nat) : Int) := by simp
  rw [m2]
  generalize b * t = c at *
  clear hq2
  go_enter Tryz.func71, Tryz.ntmps71
  have hwr : ∀ x : Int, -9223372036854775808 ≤ x → x ≤ 9223372036854775807 → IntKind.i64.wrap x = x := fun x h h' => by rw [IntKind.wrap_i64]; omega
  have w1 := hwr (2 * (n : Int)) (by omega) (by omega)
  have w2 := hwr (2 * (j : Int)) (by omega) (by omega)
  have w3 := hwr (2 * (j : Int) + 1) (by omega) (by omega)
  have w4 := hwr (9 * (2 * (j : Int) + 1)) (by omega) (by omega)
  have w5 : IntKind.i64.wrap (2 * (n : Int) + 9 * (2 * (j : Int) + 1)) = (a : Int) := by rw [ha']; exact hwr _ (by omega) (by omega)
  have w6 : IntKind.i64.wrap (q : Int) = (q : Int) := hwr _ (by omega) (by omega)
  have w7 : IntKind.i64.wrap ((2 * (n : Int) + 9 * (2 * (j : Int) + 1)) * (q : Int)) = (b : Int) := by rw [ha', m1]; exact hwr _ (by omega) (by omega)
  have w8 : IntKind.i64.wrap ((b : Int) * (t : Int)) = (c : Int) := by rw [m2]; exact hwr _ (by omega) (by omega)
  clear m1 m2 hwr ha'
  go_wp2_with fail
  go_region_with (go_at_call 89; refine (hp _).mono ?_; rintro e w' ⟨rfl, rfl⟩)
  all_goals
    go_wp2
    go_ret
    exact ⟨rfl, rfl⟩
set_option maxHeartbeats 400000 in
theorem many_any (s : Bool) (i : Nat) (hi : i ≤ 6) (w : World) : Calls Tryz.prog 70 #[.bool s, .int .i64 i] w fun e w' => e = .returned (.int .i64 ((if s then 2 ^ i else 2 ^ (i + 1) : Nat) : Int)) ∧ w = w' := by
  have hp := power_any 2 i (by omega) (by omega) (by omega) (by have := two_le i (by omega); omega) w
  have hp1 := power_any 2 (i + 1) (by omega) (by omega) (by omega) (by have := two_le (i + 1) (by omega); omega) w
  have hc : ((i + 1 : Nat) : Int) = (i : Int) + 1 := by simp
  rw [hc] at hp1
  generalize 2 ^ i = a at hp
  generalize 2 ^ (i + 1) = b at hp1
  cases s
  · go_enter Tryz.func70, Tryz.ntmps70
    go_wp2_with fail
    refine hp1.mono ?_
    rintro e w' ⟨rfl, rfl⟩
    go_wp2
    go_ret
    exact ⟨rfl, rfl⟩
  · go_enter Tryz.func70, Tryz.ntmps70
    go_wp2_with fail
    refine hp.mono ?_
    rintro e w' ⟨rfl, rfl⟩
    go_wp2
    go_ret
    exact ⟨rfl, rfl⟩
end Go.Proofs.YtochabikpaoalaaGreat
namespace Go.Proofs.YtochabikpaoalaaGreat
open Go.RowKit Go.Shelf

def prt (n i j : Nat) : Int := (2 * (n : Int) + 9 * (2 * (j : Int) + 1)) * (128 / (n : Int)) * ((10 ^ i : Nat) : Int)
theorem neg_at : ∀ i < 7, ∀ j < 2 ^ i, iat (bk 0) (127 - 2 ^ i - j) = -prt (2 ^ i) i j := by decide +kernel
theorem pos_at : ∀ i < 7, ∀ j < 2 ^ i, iat (bk 0) (127 + 2 ^ i + j) = prt (2 ^ i) i j := by decide +kernel
theorem one_at : ∀ i < 7, ∀ j < 2 ^ (i + 1), iat (bk 1) (2 ^ (i + 1) - 1 + j) = prt (2 ^ (i + 1)) i j := by decide +kernel
theorem bk_snoc (k : Nat) (hk : k < 4) (p : Nat) (hp : p < 256) : (bk k).take (p + 1) = (bk k).take p ++ [iat (bk k) p] := iat_snoc_take _ _ (by rw [bk_len k hk]; omega)
theorem part_prt (n i j : Nat) (h1 : 1 ≤ n) (hn : n ≤ 128) (hi : i ≤ 6) (hj : j < n) (w : World) : Calls Tryz.prog 71 #[.int .i64 n, .int .i64 i, .int .i64 j] w fun e w' => e = .returned (.int .i64 (prt n i j)) ∧ w' = w.drew := part_any n i j h1 hn hi hj w
theorem prt_in (n i j : Nat) (h1 : 1 ≤ n) (hn : n ≤ 128) (hi : i ≤ 6) (hj : j < n) : 0 ≤ prt n i j ∧ prt n i j ≤ 1000000000000 := by
  have ht := ten_le i hi
  have hq1 : 128 / n ≤ 128 := Nat.div_le_self _ _
  have hs1 : (2 * n + 9 * (2 * j + 1)) * (128 / n) ≤ 2560 * 128 := Nat.mul_le_mul (by omega) hq1
  have hs2 : (2 * n + 9 * (2 * j + 1)) * (128 / n) * 10 ^ i ≤ 2560 * 128 * 1000000 := Nat.mul_le_mul hs1 ht
  have e : prt n i j = (((2 * n + 9 * (2 * j + 1)) * (128 / n) * 10 ^ i : Nat) : Int) := by simp [prt]
  rw [e]; omega
set_option maxRecDepth 100000 in
set_option maxHeartbeats 2000000 in
theorem tree_s (w : World) : Calls Tryz.prog 52 #[.bool true] w fun e w' => ∃ v, e = .returned v ∧ IsI w' v (bk 0) ∧ Below w.heap.size w w' := by
  obtain ⟨i0, hi, hz0, hz1, hz2⟩ := info_parts info_i64
  have hown0 := World.ownsRow_lit w #[] 0 (base := w.heap.size) (e := 2) (size := 1) (Nat.le_refl _) (by unfold maxLen; omega) rfl
  go_enter Tryz.func52, Tryz.ntmps52
  go_wp2
  go_loopw [4, 3] (fun i o wr => ∃ (r n : Nat) (l : List Int) (ii : Int), r ≤ 7 ∧ Hid (n = 2 ^ r) ∧ n ≤ 128 ∧ 1 ≤ n ∧ Hid (ii = (r : Int) - 1) ∧ i = .int .i64 ii ∧ Hid (l = (bk 0).take (128 - n)) ∧ l.length ≤ 256 ∧ wr.ownsRow w.heap.size 2 1 o l.length (is l) ∧ Below w.heap.size w wr) (fun i _ _ => (intOf i + 1).toNat)
  case atStart => exact ⟨7, 128, [], 6, by omega, Lib.hid rfl, by omega, by omega, Lib.hid (by omega), rfl, Lib.hid rfl, by simp, hown0, (Below.refl _ w).alloc (Nat.le_refl _) _⟩
  case round =>
    obtain ⟨r, n, l, ii, hr, hn, hn1, hn2, hii, rfl, hl, hll, hown, hB⟩ := hrel
    by_cases h0 : r = 0
    · subst h0
      obtain rfl : ii = -1 := by rw [hii.out]; rfl
      obtain rfl : n = 1 := hn.out
      have hL : Hid (l ++ [0] = (bk 0).take 128) := by rw [Hid, hl.out]; decide +kernel
      clear hii hn hl
      go_wp2_with (at_builtin; go_must (refine wpList_app1 _ rfl _ _ 34 2 (.int .i64 0) 8 rfl Tryz.underlying34 info_i64 rfl w.heap.size (.int .i64 (0)) rfl _ l.length (is l) rfl (hown.alloc _) ⟨wr.heap.size, 0, none⟩ rfl (by simp) (by omega) (by omega) (by have := hB.size; simp; omega) ?_; intro v' w1 hown' hgrow; obtain ⟨g', cap', rfl⟩ := ownsRow_succ hown'; obtain ⟨hbl, hko⟩ := bx_app hown hB.size hgrow))
      have hB1 := hB.trans (hbl.mono (by omega))
      have hrow1 : w1.ownsRow w.heap.size 2 1 (.slice (some ⟨g', 0, none⟩) (l.length + 1) cap') (l ++ [0]).length (is (l ++ [0])) := by
        rw [is_snoc, List.length_append, List.length_singleton]; exact hown'
      have hl1 : (l ++ [0]).length ≤ 256 := by rw [hL.out, List.length_take, bk_len 0 (by omega)]; omega
      clear hown' hgrow hbl hko
      go_loopw [7, 3] (fun i o wr => ∃ (r n : Nat) (l : List Int), r ≤ 7 ∧ Hid (n = 2 ^ r) ∧ n ≤ 128 ∧ 1 ≤ n ∧ i = .int .i64 (r : Nat) ∧ Hid (l = (bk 0).take (127 + n)) ∧ l.length ≤ 256 ∧ wr.ownsRow w.heap.size 2 1 o l.length (is l) ∧ Below w.heap.size w wr) (fun i _ _ => 7 - (intOf i).toNat)
      case atStart => exact ⟨0, 1, _, by omega, Lib.hid rfl, by omega, by omega, rfl, Lib.hid hL.out, hl1, hrow1, hB1⟩
      case round =>
        obtain ⟨r, n, l, hr, hn, hn1, hn2, rfl, hl, hll, hown, hB⟩ := hrel
        by_cases h0 : r = 7
        · subst h0
          obtain rfl : n = 128 := hn.out
          have hL : Hid (l ++ [2560000000] = bk 0) := by rw [Hid, hl.out]; decide +kernel
          clear hn hl
          go_wp2_with (at_builtin; go_must (refine wpList_app1 _ rfl _ _ 34 2 (.int .i64 0) 8 rfl Tryz.underlying34 info_i64 rfl w.heap.size (.int .i64 (2560000000)) rfl _ l.length (is l) rfl (hown.alloc _) ⟨wr.heap.size, 0, none⟩ rfl (by simp) (by omega) (by omega) (by have := hB.size; simp; omega) ?_; intro v' w1 hown' hgrow; obtain ⟨g', cap', rfl⟩ := ownsRow_succ hown'; obtain ⟨hbl, hko⟩ := bx_app hown hB.size hgrow))
          go_ret
          refine ⟨_, rfl, ?_, hB.trans (hbl.mono (by omega))⟩
          rw [← hL.out]
          exact IsI.of_own (by rw [is_snoc, List.length_append, List.length_singleton]; exact hown')
        · have hM : ∀ W, Calls Tryz.prog 70 #[.bool true, .int .i64 r] W fun e w' => e = .returned (.int .i64 (n : Nat)) ∧ W = w' := by intro W; rw [hn.out]; exact many_any true r (by omega) W
          have hn4 : n ≤ 64 := by rw [hn.out]; exact Nat.pow_le_pow_right (by omega) (by omega : r ≤ 6)
          go_wp2_with fail
          refine (hM _).mono ?_
          rintro e w2 ⟨rfl, rfl⟩
          go_wp2
          go_loopw [9, 3] (fun i o wr => ∃ (j : Nat) (l : List Int), j ≤ n ∧ i = .int .i64 (j : Nat) ∧ Hid (l = (bk 0).take (127 + n + j)) ∧ l.length ≤ 256 ∧ wr.ownsRow w.heap.size 2 1 o l.length (is l) ∧ Below w.heap.size w wr) (fun i _ _ => n - (intOf i).toNat)
          case atStart => exact ⟨0, l, by omega, rfl, Lib.hid hl.out, hll, hown, hB⟩
          case round =>
            obtain ⟨j, l, hj, rfl, hl, hll, hown, hB⟩ := hrel
            by_cases hlt : j < n
            · have hP := part_prt n r j (by omega) (by omega) (by omega) hlt
              have hPi := prt_in n r j (by omega) (by omega) (by omega) hlt
              have hsn : Hid ((bk 0).take (127 + n + (j + 1)) = l ++ [prt n r j]) := by
                rw [Hid, hl.out, show 127 + n + (j + 1) = (127 + n + j) + 1 from by omega, bk_snoc 0 (by omega) _ (by omega)]
                have := pos_at r (by omega) j (by rw [← hn.out]; omega)
                rw [← hn.out] at this
                rw [← this]
              clear hl
              generalize prt n r j = x at hP hPi hsn
              go_wp2_with fail
              refine (hP _).mono ?_
              rintro e w2 ⟨rfl, rfl⟩
              go_wp2_with (at_builtin; go_must (refine wpList_app1 _ rfl _ _ 34 2 (.int .i64 0) 8 rfl Tryz.underlying34 info_i64 rfl w.heap.size (.int .i64 (x)) rfl _ l.length (is l) rfl (hown.drew.alloc _) ⟨wr.drew.heap.size, 0, none⟩ rfl (by simp) (by omega) (by omega) (by have := hB.size; simp; omega) ?_; intro v' w1 hown' hgrow; obtain ⟨g', cap', rfl⟩ := ownsRow_succ hown'; obtain ⟨hbl, hko⟩ := bx_app hown.drew (by simpa using hB.size) hgrow))
              refine ⟨⟨j + 1, l ++ [x], by omega, by go_num, Lib.hid hsn.out.symm, by rw [← hsn.out, List.length_take, bk_len 0 (by omega)]; omega, ?_, ?_⟩, ?_⟩
              · rw [is_snoc, List.length_append, List.length_singleton]; exact hown'
              · exact (hB.drew).trans (hbl.mono (by omega))
              · simp [intOf]; omega
            · obtain rfl : j = n := by omega
              have hl2 : Hid (l = (bk 0).take (127 + j * 2)) := by rw [Hid, hl.out]; congr 1; omega
              go_wp2
              refine ⟨⟨r + 1, j * 2, l, by omega, Lib.hid (by rw [hn.out, Nat.pow_succ]), by omega, by omega, by go_num, hl2, hll, hown, hB⟩, by simp [intOf]; omega⟩
    · obtain ⟨q, rfl⟩ : ∃ q, r = q + 1 := ⟨r - 1, by omega⟩
      obtain rfl : ii = q := by rw [hii.out]; omega
      obtain ⟨m, hm⟩ : ∃ m, m = 2 ^ q := ⟨_, rfl⟩
      have hM : ∀ W, Calls Tryz.prog 70 #[.bool true, .int .i64 q] W fun e w' => e = .returned (.int .i64 (m : Nat)) ∧ W = w' := by intro W; rw [hm]; exact many_any true q (by omega) W
      obtain rfl : n = 2 * m := by rw [hn.out, hm, Nat.pow_succ, Nat.mul_comm]
      have hm' := Lib.hid hm
      clear hm hn hii h0
      go_wp2_with fail
      refine (hM _).mono ?_
      rintro e w2 ⟨rfl, rfl⟩
      go_wp2
      go_loopw [6, 3] (fun i o wr => ∃ (jj : Nat) (l : List Int) (ii : Int), jj ≤ m ∧ Hid (ii = (jj : Int) - 1) ∧ i = .int .i64 ii ∧ Hid (l = (bk 0).take (128 - m - jj)) ∧ l.length ≤ 256 ∧ wr.ownsRow w.heap.size 2 1 o l.length (is l) ∧ Below w.heap.size w wr) (fun i _ _ => (intOf i + 1).toNat)
      case atStart => exact ⟨m, l, _, by omega, Lib.hid rfl, rfl, Lib.hid (by rw [hl.out]; congr 1; omega), hll, hown, hB⟩
      case round =>
        obtain ⟨jj, l, ii, hj, hii, rfl, hl, hll, hown, hB⟩ := hrel
        by_cases h0 : jj = 0
        · subst h0
          obtain rfl : ii = -1 := by rw [hii.out]; rfl
          go_wp2
          refine ⟨⟨q, m, l, _, by omega, hm', by omega, by omega, Lib.hid rfl, rfl, Lib.hid (by rw [hl.out]; rfl), hll, hown, hB⟩, by simp [intOf]⟩
        · obtain ⟨p, rfl⟩ : ∃ p, jj = p + 1 := ⟨jj - 1, by omega⟩
          obtain rfl : ii = p := by rw [hii.out]; omega
          have hP := part_prt m q p (by omega) (by omega) (by omega) (by omega)
          have hPi := prt_in m q p (by omega) (by omega) (by omega) (by omega)
          have hsn : Hid ((bk 0).take (128 - m - p) = l ++ [-prt m q p]) := by
            rw [Hid, hl.out, show 128 - m - p = (128 - m - (p + 1)) + 1 from by omega, bk_snoc 0 (by omega) _ (by omega)]
            have hmm : p < 2 ^ q := by rw [← hm'.out]; omega
            have := neg_at q (by omega) p hmm
            rw [← hm'.out] at this
            rw [← this, show 127 - m - p = 128 - m - (p + 1) from by omega]
          clear hl hii h0
          generalize prt m q p = x at hP hPi hsn
          go_wp2_with fail
          refine (hP _).mono ?_
          rintro e w2 ⟨rfl, rfl⟩
          go_wp2_with (at_builtin; go_must (refine wpList_app1 _ rfl _ _ 34 2 (.int .i64 0) 8 rfl Tryz.underlying34 info_i64 rfl w.heap.size (.int .i64 (-x)) rfl _ l.length (is l) rfl (hown.drew.alloc _) ⟨wr.drew.heap.size, 0, none⟩ rfl (by simp) (by omega) (by omega) (by have := hB.size; simp; omega) ?_; intro v' w1 hown' hgrow; obtain ⟨g', cap', rfl⟩ := ownsRow_succ hown'; obtain ⟨hbl, hko⟩ := bx_app hown.drew (by simpa using hB.size) hgrow))
          refine ⟨⟨p, l ++ [-x], _, by omega, Lib.hid rfl, ?_, Lib.hid hsn.out.symm, by rw [← hsn.out, List.length_take, bk_len 0 (by omega)]; omega, ?_, ?_⟩, ?_⟩
          · rfl
          · rw [is_snoc, List.length_append, List.length_singleton]; exact hown'
          · exact (hB.drew).trans (hbl.mono (by omega))
          · simp [intOf]
end Go.Proofs.YtochabikpaoalaaGreat
namespace Go.Proofs.YtochabikpaoalaaGreat
open Go.RowKit Go.Shelf

set_option maxRecDepth 100000 in
set_option maxHeartbeats 2000000 in
theorem tree_u (w : World) : Calls Tryz.prog 52 #[.bool false] w fun e w' => ∃ v, e = .returned v ∧ IsI w' v (bk 1) ∧ Below w.heap.size w w' := by
  obtain ⟨i0, hi, hz0, hz1, hz2⟩ := info_parts info_i64
  have hown0 := World.ownsRow_lit w #[] 0 (base := w.heap.size) (e := 2) (size := 1) (Nat.le_refl _) (by unfold maxLen; omega) rfl
  go_enter Tryz.func52, Tryz.ntmps52
  go_wp2
  go_loopw [4, 3] (fun i o wr => ∃ l : List Int, i = .int .i64 6 ∧ Hid (l = []) ∧ l.length ≤ 10 ∧ wr.ownsRow w.heap.size 2 1 o l.length (is l) ∧ Below w.heap.size w wr) (fun i _ _ => 0)
  case atStart => exact ⟨[], rfl, Lib.hid rfl, by simp, hown0, (Below.refl _ w).alloc (Nat.le_refl _) _⟩
  case round =>
    obtain ⟨l, rfl, hl, hll, hown, hB⟩ := hrel
    have hL : Hid (l ++ [0] = (bk 1).take 1) := by rw [Hid, hl.out]; decide +kernel
    clear hl
    go_wp2_with (at_builtin; go_must (refine wpList_app1 _ rfl _ _ 34 2 (.int .i64 0) 8 rfl Tryz.underlying34 info_i64 rfl w.heap.size (.int .i64 (0)) rfl _ l.length (is l) rfl (hown.alloc _) ⟨wr.heap.size, 0, none⟩ rfl (by simp) (by omega) (by omega) (by have := hB.size; simp; omega) ?_; intro v' w1 hown' hgrow; obtain ⟨g', cap', rfl⟩ := ownsRow_succ hown'; obtain ⟨hbl, hko⟩ := bx_app hown hB.size hgrow))
    have hB1 := hB.trans (hbl.mono (by omega))
    have hrow1 : w1.ownsRow w.heap.size 2 1 (.slice (some ⟨g', 0, none⟩) (l.length + 1) cap') (l ++ [0]).length (is (l ++ [0])) := by
      rw [is_snoc, List.length_append, List.length_singleton]; exact hown'
    have hl1 : (l ++ [0]).length ≤ 256 := by rw [hL.out, List.length_take, bk_len 1 (by omega)]; omega
    clear hown' hgrow hbl hko
    go_loopw [7, 3] (fun i o wr => ∃ (r n : Nat) (l : List Int), r ≤ 7 ∧ Hid (n = 2 ^ (r + 1)) ∧ n ≤ 256 ∧ 2 ≤ n ∧ i = .int .i64 (r : Nat) ∧ Hid (l = (bk 1).take (n - 1)) ∧ l.length ≤ 256 ∧ wr.ownsRow w.heap.size 2 1 o l.length (is l) ∧ Below w.heap.size w wr) (fun i _ _ => 7 - (intOf i).toNat)
    case atStart => exact ⟨0, 2, _, by omega, Lib.hid rfl, by omega, by omega, rfl, Lib.hid hL.out, hl1, hrow1, hB1⟩
    case round =>
      obtain ⟨r, n, l, hr, hn, hn1, hn2, rfl, hl, hll, hown, hB⟩ := hrel
      by_cases h0 : r = 7
      · subst h0
        obtain rfl : n = 256 := hn.out
        have hL : Hid (l ++ [2560000000] = bk 1) := by rw [Hid, hl.out]; decide +kernel
        clear hn hl
        go_wp2_with (at_builtin; go_must (refine wpList_app1 _ rfl _ _ 34 2 (.int .i64 0) 8 rfl Tryz.underlying34 info_i64 rfl w.heap.size (.int .i64 (2560000000)) rfl _ l.length (is l) rfl (hown.alloc _) ⟨wr.heap.size, 0, none⟩ rfl (by simp) (by omega) (by omega) (by have := hB.size; simp; omega) ?_; intro v' w1 hown' hgrow; obtain ⟨g', cap', rfl⟩ := ownsRow_succ hown'; obtain ⟨hbl, hko⟩ := bx_app hown hB.size hgrow))
        go_ret
        refine ⟨_, rfl, ?_, hB.trans (hbl.mono (by omega))⟩
        rw [← hL.out]
        exact IsI.of_own (by rw [is_snoc, List.length_append, List.length_singleton]; exact hown')
      · have hM : ∀ W, Calls Tryz.prog 70 #[.bool false, .int .i64 r] W fun e w' => e = .returned (.int .i64 (n : Nat)) ∧ W = w' := by intro W; rw [hn.out]; exact many_any false r (by omega) W
        have hn4 : n ≤ 128 := by rw [hn.out]; exact Nat.pow_le_pow_right (by omega) (by omega : r + 1 ≤ 7)
        go_wp2_with fail
        refine (hM _).mono ?_
        rintro e w2 ⟨rfl, rfl⟩
        go_wp2
        go_loopw [9, 3] (fun i o wr => ∃ (j : Nat) (l : List Int), j ≤ n ∧ i = .int .i64 (j : Nat) ∧ Hid (l = (bk 1).take (n - 1 + j)) ∧ l.length ≤ 256 ∧ wr.ownsRow w.heap.size 2 1 o l.length (is l) ∧ Below w.heap.size w wr) (fun i _ _ => n - (intOf i).toNat)
        case atStart => exact ⟨0, l, by omega, rfl, Lib.hid hl.out, hll, hown, hB⟩
        case round =>
          obtain ⟨j, l, hj, rfl, hl, hll, hown, hB⟩ := hrel
          by_cases hlt : j < n
          · have hP := part_prt n r j (by omega) (by omega) (by omega) hlt
            have hPi := prt_in n r j (by omega) (by omega) (by omega) hlt
            have hsn : Hid ((bk 1).take (n - 1 + (j + 1)) = l ++ [prt n r j]) := by
              rw [Hid, hl.out, show n - 1 + (j + 1) = (n - 1 + j) + 1 from by omega, bk_snoc 1 (by omega) _ (by omega)]
              have := one_at r (by omega) j (by rw [← hn.out]; omega)
              rw [← hn.out] at this
              rw [← this]
            clear hl
            generalize prt n r j = x at hP hPi hsn
            go_wp2_with fail
            refine (hP _).mono ?_
            rintro e w2 ⟨rfl, rfl⟩
            go_wp2_with (at_builtin; go_must (refine wpList_app1 _ rfl _ _ 34 2 (.int .i64 0) 8 rfl Tryz.underlying34 info_i64 rfl w.heap.size (.int .i64 (x)) rfl _ l.length (is l) rfl (hown.drew.alloc _) ⟨wr.drew.heap.size, 0, none⟩ rfl (by simp) (by omega) (by omega) (by have := hB.size; simp; omega) ?_; intro v' w1 hown' hgrow; obtain ⟨g', cap', rfl⟩ := ownsRow_succ hown'; obtain ⟨hbl, hko⟩ := bx_app hown.drew (by simpa using hB.size) hgrow))
            refine ⟨⟨j + 1, l ++ [x], by omega, by go_num, Lib.hid hsn.out.symm, by rw [← hsn.out, List.length_take, bk_len 1 (by omega)]; omega, ?_, ?_⟩, ?_⟩
            · rw [is_snoc, List.length_append, List.length_singleton]; exact hown'
            · exact (hB.drew).trans (hbl.mono (by omega))
            · simp [intOf]; omega
          · obtain rfl : j = n := by omega
            have hl2 : Hid (l = (bk 1).take (j * 2 - 1)) := by rw [Hid, hl.out]; congr 1; omega
            go_wp2
            refine ⟨⟨r + 1, j * 2, l, by omega, Lib.hid (by rw [hn.out]; exact (Nat.pow_succ 2 (r + 1)).symm), by omega, by omega, by go_num, hl2, hll, hown, hB⟩, by simp [intOf]; omega⟩
end Go.Proofs.YtochabikpaoalaaGreat
