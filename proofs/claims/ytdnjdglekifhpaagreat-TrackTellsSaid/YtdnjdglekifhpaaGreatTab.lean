/- A part of the proof of: Bounds of what is kept, a bound a step on, and a number with what is so near, are as the document says. No conditions: every input. -/
import Derived.Deep.RegionWith
import Derived.Deep.QuietTactic
import Derived.BigQuiet
import Derived.Outline
import Derived.Deep.RegionLaw
import Derived.RegionTactic
import Derived.Deep.DeepMust
import Derived.Test.YtdnjdglekifhpaaGreatTaa
namespace Go.Proofs.YtdnjdglekifhpaaGreat
open Go.RowKit Go.Shelf
set_option maxHeartbeats 400000 in
theorem rsigned_any (k : Int) (w : World) : Calls Tryz.prog 244 #[.int .i64 k] w fun e w' => e = .returned (.bool (sgn k)) ∧ w = w' := by
 rcases kind_cases k with rfl | rfl | rfl | rfl | ⟨h0, h1, h2, h3⟩
 all_goals
   go_enter Tryz.func244, Tryz.ntmps244
   go_wp2
   go_ret
 all_goals first | exact ⟨rfl, rfl⟩ | exact ⟨ret_bool (by simp [sgn, h0, h2]), rfl⟩
set_option maxHeartbeats 400000 in
theorem rden_any (k : Int) (w : World) : Calls Tryz.prog 127 #[.int .i64 k] w fun e w' => e = .returned (.int .i64 (den k)) ∧ w = w' := by
 rcases kind_cases k with rfl | rfl | rfl | rfl | ⟨h0, h1, h2, h3⟩
 all_goals
   go_enter Tryz.func127, Tryz.ntmps127
   go_wp2
   go_ret
 all_goals first | exact ⟨rfl, rfl⟩ | exact ⟨ret_int (by simp at h0 h1 h2 h3; simp [den, h0, h1, h2, h3]), rfl⟩
set_option maxHeartbeats 400000 in
theorem power_any (n k : Nat) (h1 : 1 ≤ n) (_hn : n ≤ 10) (hk : k ≤ 10) (hb : n ^ k ≤ 4611686018427387904) (w : World) : Calls Tryz.prog 267 #[.int .i64 n, .int .i64 k] w fun e w' => e = .returned (.int .i64 ((n ^ k : Nat) : Int)) ∧ w = w' := by
 have hle : ∀ i, i ≤ k → n ^ i ≤ n ^ k := fun i hi => Nat.pow_le_pow_right h1 hi
 obtain ⟨pw, hpw⟩ : ∃ pw : Nat → Nat, ∀ i, n ^ i = pw i := ⟨fun i => n ^ i, fun _ => rfl⟩
 have hs : ∀ i, pw (i + 1) = pw i * n := fun i => by rw [← hpw, ← hpw, Nat.pow_succ]
 have h0 : pw 0 = 1 := by rw [← hpw]; rfl
 simp only [hpw] at hle hb ⊢
 go_enter Tryz.func267, Tryz.ntmps267
 go_wp2
 go_loopw [6, 5] (fun i o wr => ∃ (j p : Nat), j ≤ k ∧ i = .int .i64 j ∧ o = .int .i64 (p : Nat) ∧ Hid (p = pw j) ∧ wr = w) (fun i _ _ => k - (intOf i).toNat)
 case atStart => exact ⟨0, 1, by omega, rfl, rfl, Lib.hid h0.symm, rfl⟩
 case round =>
   obtain ⟨j, p, hj, rfl, rfl, hp, rfl⟩ := hrel
   by_cases hlt : j < k
   · have hq := hle (j + 1) hlt
     have hE : Hid (p * n = pw (j + 1)) := by rw [Hid, hs, hp.out]
     rw [← hE.out] at hq
     have hc : ((p * n : Nat) : Int) = (p : Int) * n := by simp
     obtain ⟨q, hqe⟩ : ∃ q : Nat, p * n = q := ⟨_, rfl⟩
     rw [hqe] at hq hc hE
     have hc' := hc.symm
     clear hc
     go_wp2
     refine ⟨⟨j + 1, q, by omega, by go_num, ?_, Lib.hid hE.out, trivial⟩, by simp [intOf]; omega⟩
     rfl
   · obtain rfl : j = k := by omega
     go_wp2
     go_ret
     exact ⟨by rw [hp.out]; rfl, rfl⟩
theorem ten_le (i : Nat) (hi : i ≤ 6) : 10 ^ i ≤ 1000000 := Nat.pow_le_pow_right (by omega) hi
theorem two_le (i : Nat) (hi : i ≤ 7) : 2 ^ i ≤ 128 := Nat.pow_le_pow_right (by omega) hi
set_option maxHeartbeats 1000000 in
theorem part_any (n i j : Nat) (h1 : 1 ≤ n) (hn : n ≤ 128) (hi : i ≤ 6) (hj : j < n) (w : World) : Calls Tryz.prog 257 #[.int .i64 n, .int .i64 i, .int .i64 j] w fun e w' => e = .returned (.int .i64 ((2 * (n : Int) + 9 * (2 * (j : Int) + 1)) * (128 / (n : Int)) * ((10 ^ i : Nat) : Int))) ∧ w' = w.drew := by
 have ht := ten_le i hi
 have hp := power_any 10 i (by omega) (by omega) (by omega) (by omega)
 generalize 10 ^ i = t at ht hp
 have hz : ((n : Int) == 0) = false := by simp; omega
 have hq1 : 128 / n ≤ 128 := Nat.div_le_self _ _
 have hq2 : (128 : Int) / (n : Int) = ((128 / n : Nat) : Int) := by simp
 have hq3 : (128 : Int).tdiv (n : Int) = ((128 / n : Nat) : Int) := by rw [Int.tdiv_eq_ediv_of_nonneg (by omega)]; exact hq2
 rw [hq2]
 generalize 128 / n = q at hq1 hq2 hq3
 have hs1 : (2 * n + 9 * (2 * j + 1)) * q ≤ 2560 * 128 := Nat.mul_le_mul (by omega) hq1
 have hs2 : (2 * n + 9 * (2 * j + 1)) * q * t ≤ 2560 * 128 * 1000000 := Nat.mul_le_mul hs1 ht
 obtain ⟨a, ha⟩ : ∃ a : Nat, a = 2 * n + 9 * (2 * j + 1) := ⟨_, rfl⟩
 have ha' : 2 * (n : Int) + 9 * (2 * (j : Int) + 1) = (a : Int) := by omega
 rw [← ha] at hs1 hs2
 have m1 : (a : Int) * (q : Int) = ((a * q : Nat) : Int) := by simp
 rw [ha', m1]
 generalize a * q = b at *
 have m2 : (b : Int) * (t : Int) = ((b * t : Nat) : Int) := by simp
 rw [m2]
 generalize b * t = c at *
 clear hq2
 go_enter Tryz.func257, Tryz.ntmps257
 have hwr : ∀ x : Int, -9223372036854775808 ≤ x → x ≤ 9223372036854775807 → IntKind.i64.wrap x = x := fun x h h' => by rw [IntKind.wrap_i64]; omega
 have w1 := hwr (2 * (n : Int)) (by omega) (by omega)
 have w2 := hwr (2 * (j : Int)) (by omega) (by omega)
 have w3 := hwr (2 * (j : Int) + 1) (by omega) (by omega)
 have w4 := hwr (9 * (2 * (j : Int) + 1)) (by omega) (by omega)
 have w5 : IntKind.i64.wrap (2 * (n : Int) + 9 * (2 * (j : Int) + 1)) = (a : Int) := by rw [ha']; exact hwr _ (by omega) (by omega)
 have w6 : IntKind.i64.wrap (q : Int) = (q : Int) := hwr _ (by omega) (by omega)
 have w7 : IntKind.i64.wrap ((2 * (n : Int) + 9 * (2 * (j : Int) + 1)) * (q : Int)) = (b : Int) := by rw [ha', m1]; exact hwr _ (by omega) (by omega)
 have w8 : IntKind.i64.wrap ((b : Int) * (t : Int)) = (c : Int) := by rw [m2]; exact hwr _ (by omega) (by omega)
 clear m1 m2 hwr ha'
 go_wp2_with fail
 go_region_with (go_at_call 267; refine (hp _).mono ?_; rintro e w' ⟨rfl, rfl⟩)
 all_goals
   go_wp2
   go_ret
   exact ⟨rfl, rfl⟩
set_option maxHeartbeats 400000 in
theorem many_any (s : Bool) (i : Nat) (hi : i ≤ 6) (w : World) : Calls Tryz.prog 256 #[.bool s, .int .i64 i] w fun e w' => e = .returned (.int .i64 ((if s then 2 ^ i else 2 ^ (i + 1) : Nat) : Int)) ∧ w = w' := by
 have hp := power_any 2 i (by omega) (by omega) (by omega) (by have := two_le i (by omega); omega) w
 have hp1 := power_any 2 (i + 1) (by omega) (by omega) (by omega) (by have := two_le (i + 1) (by omega); omega) w
 have hc : ((i + 1 : Nat) : Int) = (i : Int) + 1 := by simp
 rw [hc] at hp1
 generalize 2 ^ i = a at hp
 generalize 2 ^ (i + 1) = b at hp1
 cases s
 · go_enter Tryz.func256, Tryz.ntmps256
   go_wp2_with fail
   refine hp1.mono ?_
   rintro e w' ⟨rfl, rfl⟩
   go_wp2
   go_ret
   exact ⟨rfl, rfl⟩
 · go_enter Tryz.func256, Tryz.ntmps256
   go_wp2_with fail
   refine hp.mono ?_
   rintro e w' ⟨rfl, rfl⟩
   go_wp2
   go_ret
   exact ⟨rfl, rfl⟩
end Go.Proofs.YtdnjdglekifhpaaGreat
namespace Go.Proofs.YtdnjdglekifhpaaGreat
open Go.RowKit Go.Shelf
def prt (n i j : Nat) : Int := (2 * (n : Int) + 9 * (2 * (j : Int) + 1)) * (128 / (n : Int)) * ((10 ^ i : Nat) : Int)
theorem neg_at : ∀ i < 7, ∀ j < 2 ^ i, iat (bk 0) (127 - 2 ^ i - j) = -prt (2 ^ i) i j := by decide +kernel
theorem pos_at : ∀ i < 7, ∀ j < 2 ^ i, iat (bk 0) (127 + 2 ^ i + j) = prt (2 ^ i) i j := by decide +kernel
theorem one_at : ∀ i < 7, ∀ j < 2 ^ (i + 1), iat (bk 1) (2 ^ (i + 1) - 1 + j) = prt (2 ^ (i + 1)) i j := by decide +kernel
theorem bk_snoc (k : Nat) (hk : k < 4) (p : Nat) (hp : p < 256) : (bk k).take (p + 1) = (bk k).take p ++ [iat (bk k) p] := iat_snoc_take _ _ (by rw [bk_len k hk]; omega)
theorem part_prt (n i j : Nat) (h1 : 1 ≤ n) (hn : n ≤ 128) (hi : i ≤ 6) (hj : j < n) (w : World) : Calls Tryz.prog 257 #[.int .i64 n, .int .i64 i, .int .i64 j] w fun e w' => e = .returned (.int .i64 (prt n i j)) ∧ w' = w.drew := part_any n i j h1 hn hi hj w
theorem prt_in (n i j : Nat) (h1 : 1 ≤ n) (hn : n ≤ 128) (hi : i ≤ 6) (hj : j < n) : 0 ≤ prt n i j ∧ prt n i j ≤ 1000000000000 := by
 have ht := ten_le i hi
 have hq1 : 128 / n ≤ 128 := Nat.div_le_self _ _
 have hs1 : (2 * n + 9 * (2 * j + 1)) * (128 / n) ≤ 2560 * 128 := Nat.mul_le_mul (by omega) hq1
 have hs2 : (2 * n + 9 * (2 * j + 1)) * (128 / n) * 10 ^ i ≤ 2560 * 128 * 1000000 := Nat.mul_le_mul hs1 ht
 have e : prt n i j = (((2 * n + 9 * (2 * j + 1)) * (128 / n) * 10 ^ i : Nat) : Int) := by simp [prt]
 rw [e]; omega
set_option maxRecDepth 100000 in
set_option maxHeartbeats 2000000 in
theorem tree_s (w : World) : Calls Tryz.prog 230 #[.bool true] w fun e w' => ∃ v, e = .returned v ∧ IsI w' v (bk 0) ∧ Below w.heap.size w w' := by
 obtain ⟨i0, hi, hz0, hz1, hz2⟩ := info_parts info_i64
 have hown0 := World.ownsRow_lit w #[] 0 (base := w.heap.size) (e := 2) (size := 1) (Nat.le_refl _) (by unfold maxLen; omega) rfl
 go_enter Tryz.func230, Tryz.ntmps230
 go_wp2
 go_loopw [4, 3] (fun i o wr => ∃ (r n : Nat) (l : List Int) (ii : Int), r ≤ 7 ∧ Hid (n = 2 ^ r) ∧ n ≤ 128 ∧ 1 ≤ n ∧ Hid (ii = (r : Int) - 1) ∧ i = .int .i64 ii ∧ Hid (l = (bk 0).take (128 - n)) ∧ l.length ≤ 256 ∧ wr.ownsRow w.heap.size 2 1 o l.length (is l) ∧ Below w.heap.size w wr) (fun i _ _ => (intOf i + 1).toNat)
 case atStart => exact ⟨7, 128, [], 6, by omega, Lib.hid rfl, by omega, by omega, Lib.hid (by omega), rfl, Lib.hid rfl, by simp, hown0, (Below.refl _ w).alloc (Nat.le_refl _) _⟩
 case round =>
   obtain ⟨r, n, l, ii, hr, hn, hn1, hn2, hii, rfl, hl, hll, hown, hB⟩ := hrel
   by_cases h0 : r = 0
   · subst h0
     obtain rfl : ii = -1 := by rw [hii.out]; rfl
     obtain rfl : n = 1 := hn.out
     have hL : Hid (l ++ [0] = (bk 0).take 128) := by rw [Hid, hl.out]; decide +kernel
     clear hii hn hl
     go_wp2_with (at_builtin; go_must (refine wpList_app1 _ rfl _ _ 62 2 (.int .i64 0) 8 rfl Tryz.underlying62 info_i64 rfl w.heap.size (.int .i64 (0)) rfl _ l.length (is l) rfl (hown.alloc _) ⟨wr.heap.size, 0, none⟩ rfl (by simp) (by omega) (by omega) (by have := hB.size; simp; omega) ?_; intro v' w1 hown' hgrow; obtain ⟨g', cap', rfl⟩ := ownsRow_succ hown'; obtain ⟨hbl, hko⟩ := bx_app hown hB.size hgrow))
     have hB1 := hB.trans (hbl.mono (by omega))
     have hrow1 : w1.ownsRow w.heap.size 2 1 (.slice (some ⟨g', 0, none⟩) (l.length + 1) cap') (l ++ [0]).length (is (l ++ [0])) := by
       rw [is_snoc, List.length_append, List.length_singleton]; exact hown'
     have hl1 : (l ++ [0]).length ≤ 256 := by rw [hL.out, List.length_take, bk_len 0 (by omega)]; omega
     clear hown' hgrow hbl hko
     go_loopw [7, 3] (fun i o wr => ∃ (r n : Nat) (l : List Int), r ≤ 7 ∧ Hid (n = 2 ^ r) ∧ n ≤ 128 ∧ 1 ≤ n ∧ i = .int .i64 (r : Nat) ∧ Hid (l = (bk 0).take (127 + n)) ∧ l.length ≤ 256 ∧ wr.ownsRow w.heap.size 2 1 o l.length (is l) ∧ Below w.heap.size w wr) (fun i _ _ => 7 - (intOf i).toNat)
     case atStart => exact ⟨0, 1, _, by omega, Lib.hid rfl, by omega, by omega, rfl, Lib.hid hL.out, hl1, hrow1, hB1⟩
     case round =>
       obtain ⟨r, n, l, hr, hn, hn1, hn2, rfl, hl, hll, hown, hB⟩ := hrel
       by_cases h0 : r = 7
       · subst h0
         obtain rfl : n = 128 := hn.out
         have hL : Hid (l ++ [2560000000] = bk 0) := by rw [Hid, hl.out]; decide +kernel
         clear hn hl
         go_wp2_with (at_builtin; go_must (refine wpList_app1 _ rfl _ _ 62 2 (.int .i64 0) 8 rfl Tryz.underlying62 info_i64 rfl w.heap.size (.int .i64 (2560000000)) rfl _ l.length (is l) rfl (hown.alloc _) ⟨wr.heap.size, 0, none⟩ rfl (by simp) (by omega) (by omega) (by have := hB.size; simp; omega) ?_; intro v' w1 hown' hgrow; obtain ⟨g', cap', rfl⟩ := ownsRow_succ hown'; obtain ⟨hbl, hko⟩ := bx_app hown hB.size hgrow))
         go_ret
         refine ⟨_, rfl, ?_, hB.trans (hbl.mono (by omega))⟩
         rw [← hL.out]
         exact IsI.of_own (by rw [is_snoc, List.length_append, List.length_singleton]; exact hown')
       · have hM : ∀ W, Calls Tryz.prog 256 #[.bool true, .int .i64 r] W fun e w' => e = .returned (.int .i64 (n : Nat)) ∧ W = w' := by intro W; rw [hn.out]; exact many_any true r (by omega) W
         have hn4 : n ≤ 64 := by rw [hn.out]; exact Nat.pow_le_pow_right (by omega) (by omega : r ≤ 6)
         go_wp2_with fail
         refine (hM _).mono ?_
         rintro e w2 ⟨rfl, rfl⟩
         go_wp2
         go_loopw [9, 3] (fun i o wr => ∃ (j : Nat) (l : List Int), j ≤ n ∧ i = .int .i64 (j : Nat) ∧ Hid (l = (bk 0).take (127 + n + j)) ∧ l.length ≤ 256 ∧ wr.ownsRow w.heap.size 2 1 o l.length (is l) ∧ Below w.heap.size w wr) (fun i _ _ => n - (intOf i).toNat)
         case atStart => exact ⟨0, l, by omega, rfl, Lib.hid hl.out, hll, hown, hB⟩
         case round =>
           obtain ⟨j, l, hj, rfl, hl, hll, hown, hB⟩ := hrel
           by_cases hlt : j < n
           · have hP := part_prt n r j (by omega) (by omega) (by omega) hlt
             have hPi := prt_in n r j (by omega) (by omega) (by omega) hlt
             have hsn : Hid ((bk 0).take (127 + n + (j + 1)) = l ++ [prt n r j]) := by
               rw [Hid, hl.out, show 127 + n + (j + 1) = (127 + n + j) + 1 from by omega, bk_snoc 0 (by omega) _ (by omega)]
               have := pos_at r (by omega) j (by rw [← hn.out]; omega)
               rw [← hn.out] at this
               rw [← this]
             clear hl
             generalize prt n r j = x at hP hPi hsn
             go_wp2_with fail
             refine (hP _).mono ?_
             rintro e w2 ⟨rfl, rfl⟩
             go_wp2_with (at_builtin; go_must (refine wpList_app1 _ rfl _ _ 62 2 (.int .i64 0) 8 rfl Tryz.underlying62 info_i64 rfl w.heap.size (.int .i64 (x)) rfl _ l.length (is l) rfl (hown.drew.alloc _) ⟨wr.drew.heap.size, 0, none⟩ rfl (by simp) (by omega) (by omega) (by have := hB.size; simp; omega) ?_; intro v' w1 hown' hgrow; obtain ⟨g', cap', rfl⟩ := ownsRow_succ hown'; obtain ⟨hbl, hko⟩ := bx_app hown.drew (by simpa using hB.size) hgrow))
             refine ⟨⟨j + 1, l ++ [x], by omega, by go_num, Lib.hid hsn.out.symm, by rw [← hsn.out, List.length_take, bk_len 0 (by omega)]; omega, ?_, ?_⟩, ?_⟩
             · rw [is_snoc, List.length_append, List.length_singleton]; exact hown'
             · exact (hB.drew).trans (hbl.mono (by omega))
             · simp [intOf]; omega
           · obtain rfl : j = n := by omega
             have hl2 : Hid (l = (bk 0).take (127 + j * 2)) := by rw [Hid, hl.out]; congr 1; omega
             go_wp2
             refine ⟨⟨r + 1, j * 2, l, by omega, Lib.hid (by rw [hn.out, Nat.pow_succ]), by omega, by omega, by go_num, hl2, hll, hown, hB⟩, by simp [intOf]; omega⟩
   · obtain ⟨q, rfl⟩ : ∃ q, r = q + 1 := ⟨r - 1, by omega⟩
     obtain rfl : ii = q := by rw [hii.out]; omega
     obtain ⟨m, hm⟩ : ∃ m, m = 2 ^ q := ⟨_, rfl⟩
     have hM : ∀ W, Calls Tryz.prog 256 #[.bool true, .int .i64 q] W fun e w' => e = .returned (.int .i64 (m : Nat)) ∧ W = w' := by intro W; rw [hm]; exact many_any true q (by omega) W
     obtain rfl : n = 2 * m := by rw [hn.out, hm, Nat.pow_succ, Nat.mul_comm]
     have hm' := Lib.hid hm
     clear hm hn hii h0
     go_wp2_with fail
     refine (hM _).mono ?_
     rintro e w2 ⟨rfl, rfl⟩
     go_wp2
     go_loopw [6, 3] (fun i o wr => ∃ (jj : Nat) (l : List Int) (ii : Int), jj ≤ m ∧ Hid (ii = (jj : Int) - 1) ∧ i = .int .i64 ii ∧ Hid (l = (bk 0).take (128 - m - jj)) ∧ l.length ≤ 256 ∧ wr.ownsRow w.heap.size 2 1 o l.length (is l) ∧ Below w.heap.size w wr) (fun i _ _ => (intOf i + 1).toNat)
     case atStart => exact ⟨m, l, _, by omega, Lib.hid rfl, rfl, Lib.hid (by rw [hl.out]; congr 1; omega), hll, hown, hB⟩
     case round =>
       obtain ⟨jj, l, ii, hj, hii, rfl, hl, hll, hown, hB⟩ := hrel
       by_cases h0 : jj = 0
       · subst h0
         obtain rfl : ii = -1 := by rw [hii.out]; rfl
         go_wp2
         refine ⟨⟨q, m, l, _, by omega, hm', by omega, by omega, Lib.hid rfl, rfl, Lib.hid (by rw [hl.out]; rfl), hll, hown, hB⟩, by simp [intOf]⟩
       · obtain ⟨p, rfl⟩ : ∃ p, jj = p + 1 := ⟨jj - 1, by omega⟩
         obtain rfl : ii = p := by rw [hii.out]; omega
         have hP := part_prt m q p (by omega) (by omega) (by omega) (by omega)
         have hPi := prt_in m q p (by omega) (by omega) (by omega) (by omega)
         have hsn : Hid ((bk 0).take (128 - m - p) = l ++ [-prt m q p]) := by
           rw [Hid, hl.out, show 128 - m - p = (128 - m - (p + 1)) + 1 from by omega, bk_snoc 0 (by omega) _ (by omega)]
           have hmm : p < 2 ^ q := by rw [← hm'.out]; omega
           have := neg_at q (by omega) p hmm
           rw [← hm'.out] at this
           rw [← this, show 127 - m - p = 128 - m - (p + 1) from by omega]
         clear hl hii h0
         generalize prt m q p = x at hP hPi hsn
         go_wp2_with fail
         refine (hP _).mono ?_
         rintro e w2 ⟨rfl, rfl⟩
         go_wp2_with (at_builtin; go_must (refine wpList_app1 _ rfl _ _ 62 2 (.int .i64 0) 8 rfl Tryz.underlying62 info_i64 rfl w.heap.size (.int .i64 (-x)) rfl _ l.length (is l) rfl (hown.drew.alloc _) ⟨wr.drew.heap.size, 0, none⟩ rfl (by simp) (by omega) (by omega) (by have := hB.size; simp; omega) ?_; intro v' w1 hown' hgrow; obtain ⟨g', cap', rfl⟩ := ownsRow_succ hown'; obtain ⟨hbl, hko⟩ := bx_app hown.drew (by simpa using hB.size) hgrow))
         refine ⟨⟨p, l ++ [-x], _, by omega, Lib.hid rfl, ?_, Lib.hid hsn.out.symm, by rw [← hsn.out, List.length_take, bk_len 0 (by omega)]; omega, ?_, ?_⟩, ?_⟩
         · rfl
         · rw [is_snoc, List.length_append, List.length_singleton]; exact hown'
         · exact (hB.drew).trans (hbl.mono (by omega))
         · simp [intOf]
end Go.Proofs.YtdnjdglekifhpaaGreat
namespace Go.Proofs.YtdnjdglekifhpaaGreat
open Go.RowKit Go.Shelf
set_option maxRecDepth 100000 in
set_option maxHeartbeats 2000000 in
theorem tree_u (w : World) : Calls Tryz.prog 230 #[.bool false] w fun e w' => ∃ v, e = .returned v ∧ IsI w' v (bk 1) ∧ Below w.heap.size w w' := by
 obtain ⟨i0, hi, hz0, hz1, hz2⟩ := info_parts info_i64
 have hown0 := World.ownsRow_lit w #[] 0 (base := w.heap.size) (e := 2) (size := 1) (Nat.le_refl _) (by unfold maxLen; omega) rfl
 go_enter Tryz.func230, Tryz.ntmps230
 go_wp2
 go_loopw [4, 3] (fun i o wr => ∃ l : List Int, i = .int .i64 6 ∧ Hid (l = []) ∧ l.length ≤ 10 ∧ wr.ownsRow w.heap.size 2 1 o l.length (is l) ∧ Below w.heap.size w wr) (fun i _ _ => 0)
 case atStart => exact ⟨[], rfl, Lib.hid rfl, by simp, hown0, (Below.refl _ w).alloc (Nat.le_refl _) _⟩
 case round =>
   obtain ⟨l, rfl, hl, hll, hown, hB⟩ := hrel
   have hL : Hid (l ++ [0] = (bk 1).take 1) := by rw [Hid, hl.out]; decide +kernel
   clear hl
   go_wp2_with (at_builtin; go_must (refine wpList_app1 _ rfl _ _ 62 2 (.int .i64 0) 8 rfl Tryz.underlying62 info_i64 rfl w.heap.size (.int .i64 (0)) rfl _ l.length (is l) rfl (hown.alloc _) ⟨wr.heap.size, 0, none⟩ rfl (by simp) (by omega) (by omega) (by have := hB.size; simp; omega) ?_; intro v' w1 hown' hgrow; obtain ⟨g', cap', rfl⟩ := ownsRow_succ hown'; obtain ⟨hbl, hko⟩ := bx_app hown hB.size hgrow))
   have hB1 := hB.trans (hbl.mono (by omega))
   have hrow1 : w1.ownsRow w.heap.size 2 1 (.slice (some ⟨g', 0, none⟩) (l.length + 1) cap') (l ++ [0]).length (is (l ++ [0])) := by
     rw [is_snoc, List.length_append, List.length_singleton]; exact hown'
   have hl1 : (l ++ [0]).length ≤ 256 := by rw [hL.out, List.length_take, bk_len 1 (by omega)]; omega
   clear hown' hgrow hbl hko
   go_loopw [7, 3] (fun i o wr => ∃ (r n : Nat) (l : List Int), r ≤ 7 ∧ Hid (n = 2 ^ (r + 1)) ∧ n ≤ 256 ∧ 2 ≤ n ∧ i = .int .i64 (r : Nat) ∧ Hid (l = (bk 1).take (n - 1)) ∧ l.length ≤ 256 ∧ wr.ownsRow w.heap.size 2 1 o l.length (is l) ∧ Below w.heap.size w wr) (fun i _ _ => 7 - (intOf i).toNat)
   case atStart => exact ⟨0, 2, _, by omega, Lib.hid rfl, by omega, by omega, rfl, Lib.hid hL.out, hl1, hrow1, hB1⟩
   case round =>
     obtain ⟨r, n, l, hr, hn, hn1, hn2, rfl, hl, hll, hown, hB⟩ := hrel
     by_cases h0 : r = 7
     · subst h0
       obtain rfl : n = 256 := hn.out
       have hL : Hid (l ++ [2560000000] = bk 1) := by rw [Hid, hl.out]; decide +kernel
       clear hn hl
       go_wp2_with (at_builtin; go_must (refine wpList_app1 _ rfl _ _ 62 2 (.int .i64 0) 8 rfl Tryz.underlying62 info_i64 rfl w.heap.size (.int .i64 (2560000000)) rfl _ l.length (is l) rfl (hown.alloc _) ⟨wr.heap.size, 0, none⟩ rfl (by simp) (by omega) (by omega) (by have := hB.size; simp; omega) ?_; intro v' w1 hown' hgrow; obtain ⟨g', cap', rfl⟩ := ownsRow_succ hown'; obtain ⟨hbl, hko⟩ := bx_app hown hB.size hgrow))
       go_ret
       refine ⟨_, rfl, ?_, hB.trans (hbl.mono (by omega))⟩
       rw [← hL.out]
       exact IsI.of_own (by rw [is_snoc, List.length_append, List.length_singleton]; exact hown')
     · have hM : ∀ W, Calls Tryz.prog 256 #[.bool false, .int .i64 r] W fun e w' => e = .returned (.int .i64 (n : Nat)) ∧ W = w' := by intro W; rw [hn.out]; exact many_any false r (by omega) W
       have hn4 : n ≤ 128 := by rw [hn.out]; exact Nat.pow_le_pow_right (by omega) (by omega : r + 1 ≤ 7)
       go_wp2_with fail
       refine (hM _).mono ?_
       rintro e w2 ⟨rfl, rfl⟩
       go_wp2
       go_loopw [9, 3] (fun i o wr => ∃ (j : Nat) (l : List Int), j ≤ n ∧ i = .int .i64 (j : Nat) ∧ Hid (l = (bk 1).take (n - 1 + j)) ∧ l.length ≤ 256 ∧ wr.ownsRow w.heap.size 2 1 o l.length (is l) ∧ Below w.heap.size w wr) (fun i _ _ => n - (intOf i).toNat)
       case atStart => exact ⟨0, l, by omega, rfl, Lib.hid hl.out, hll, hown, hB⟩
       case round =>
         obtain ⟨j, l, hj, rfl, hl, hll, hown, hB⟩ := hrel
         by_cases hlt : j < n
         · have hP := part_prt n r j (by omega) (by omega) (by omega) hlt
           have hPi := prt_in n r j (by omega) (by omega) (by omega) hlt
           have hsn : Hid ((bk 1).take (n - 1 + (j + 1)) = l ++ [prt n r j]) := by
             rw [Hid, hl.out, show n - 1 + (j + 1) = (n - 1 + j) + 1 from by omega, bk_snoc 1 (by omega) _ (by omega)]
             have := one_at r (by omega) j (by rw [← hn.out]; omega)
             rw [← hn.out] at this
             rw [← this]
           clear hl
           generalize prt n r j = x at hP hPi hsn
           go_wp2_with fail
           refine (hP _).mono ?_
           rintro e w2 ⟨rfl, rfl⟩
           go_wp2_with (at_builtin; go_must (refine wpList_app1 _ rfl _ _ 62 2 (.int .i64 0) 8 rfl Tryz.underlying62 info_i64 rfl w.heap.size (.int .i64 (x)) rfl _ l.length (is l) rfl (hown.drew.alloc _) ⟨wr.drew.heap.size, 0, none⟩ rfl (by simp) (by omega) (by omega) (by have := hB.size; simp; omega) ?_; intro v' w1 hown' hgrow; obtain ⟨g', cap', rfl⟩ := ownsRow_succ hown'; obtain ⟨hbl, hko⟩ := bx_app hown.drew (by simpa using hB.size) hgrow))
           refine ⟨⟨j + 1, l ++ [x], by omega, by go_num, Lib.hid hsn.out.symm, by rw [← hsn.out, List.length_take, bk_len 1 (by omega)]; omega, ?_, ?_⟩, ?_⟩
           · rw [is_snoc, List.length_append, List.length_singleton]; exact hown'
           · exact (hB.drew).trans (hbl.mono (by omega))
           · simp [intOf]; omega
         · obtain rfl : j = n := by omega
           have hl2 : Hid (l = (bk 1).take (j * 2 - 1)) := by rw [Hid, hl.out]; congr 1; omega
           go_wp2
           refine ⟨⟨r + 1, j * 2, l, by omega, Lib.hid (by rw [hn.out]; exact (Nat.pow_succ 2 (r + 1)).symm), by omega, by omega, by go_num, hl2, hll, hown, hB⟩, by simp [intOf]; omega⟩
end Go.Proofs.YtdnjdglekifhpaaGreat
namespace Go.Proofs.YtdnjdglekifhpaaGreat
open Go.ChangeShapes Go.WideShapes Go.ChangeAt Go.RowKit
theorem gap_none (k : Int) (h : ¬ (0 ≤ k ∧ k ≤ 3)) : gz k = 0 ∧ den k = 0 ∧ bkz k = [] ∧ bke k = 1 := by
 have hb : bkz k = [] := by rw [bkz, if_neg (by omega), if_neg (by omega), if_neg (by omega), if_neg (by omega)]
 refine ⟨by rw [gz, hb]; rfl, by rw [den, if_neg (by omega), if_neg (by omega)], hb, by rw [bke, if_neg h]⟩
end Go.Proofs.YtdnjdglekifhpaaGreat
namespace Go.Proofs.YtdnjdglekifhpaaGreat
open Go.RowKit Go.Shelf
theorem line_2 : ∀ j < 256, iat (bk 2) j = 2 * (j : Int) - 255 := by decide +kernel
theorem line_3 : ∀ j < 256, iat (bk 3) j = (j : Int) := by decide +kernel
set_option maxRecDepth 100000 in
set_option maxHeartbeats 1000000 in
theorem rbook_2 (w : World) : Calls Tryz.prog 184 #[.int .i64 2] w fun e w' => ∃ v, e = .returned (.tuple #[v, .int .i64 0]) ∧ IsI w' v (bk 2) ∧ Below w.heap.size w w' := by
 have hown0 := World.ownsRow_lit w #[] 0 (base := w.heap.size) (e := 2) (size := 1) (Nat.le_refl _) (by unfold maxLen; omega) rfl
 go_enter Tryz.func184, Tryz.ntmps184
 go_wp2
 go_loopw [5, 4] (fun i o wr => ∃ (j : Nat) (l : List Int), j ≤ 256 ∧ i = .int .i64 (j : Nat) ∧ Hid (l = (bk 2).take j) ∧ l.length ≤ 256 ∧ wr.ownsRow w.heap.size 2 1 o l.length (is l) ∧ Below w.heap.size w wr) (fun i _ _ => 256 - (intOf i).toNat)
 case atStart => exact ⟨0, [], by omega, rfl, Lib.hid rfl, by simp, hown0, (Below.refl _ w).alloc (Nat.le_refl _) _⟩
 case round =>
   obtain ⟨j, l, hj, rfl, hl, hll, hown, hB⟩ := hrel
   by_cases hlt : j < 256
   · obtain ⟨x, hx⟩ : ∃ x : Int, x = 2 * (j : Int) - 255 := ⟨_, rfl⟩
     have hsn : Hid ((bk 2).take (j + 1) = l ++ [x]) := by
       rw [Hid, hl.out, bk_snoc 2 (by omega) _ hlt, line_2 j hlt, hx]
     clear hl
     have hw1 : IntKind.i64.wrap (2 * (j : Int)) = 2 * (j : Int) := by rw [IntKind.wrap_i64]; omega
     have hw2 : IntKind.i64.wrap (2 * (j : Int) - 255) = x := by rw [hx, IntKind.wrap_i64]; omega
     have Hx := Lib.hid hx
     clear hx
     go_wp2_with (at_builtin; go_must (refine wpList_app1 _ rfl _ _ 62 2 (.int .i64 0) 8 rfl Tryz.underlying62 info_i64 rfl w.heap.size (.int .i64 x) rfl _ l.length (is l) rfl (hown.alloc _) ⟨wr.heap.size, 0, none⟩ rfl (by simp) (by omega) (by omega) (by have := hB.size; simp; omega) ?_; intro v' w1 hown' hgrow; obtain ⟨g', cap', rfl⟩ := ownsRow_succ hown'; obtain ⟨hbl, hko⟩ := bx_app hown hB.size hgrow))
     refine ⟨⟨j + 1, l ++ [x], by omega, by go_num, Lib.hid hsn.out.symm, by rw [← hsn.out, List.length_take, bk_len 2 (by omega)]; omega, ?_, hB.trans (hbl.mono (by omega))⟩, by simp [intOf]; omega⟩
     rw [is_snoc, List.length_append, List.length_singleton]; exact hown'
   · obtain rfl : j = 256 := by omega
     have hL : l = bk 2 := by rw [hl.out, List.take_of_length_le (by rw [bk_len 2 (by omega)]; omega)]
     have HL := Lib.hid hL
     clear hL hl
     go_wp2
     go_ret2
     refine ⟨_, rfl, ?_, hB⟩
     rw [← HL.out]
     exact IsI.of_own hown
set_option maxRecDepth 100000 in
set_option maxHeartbeats 1000000 in
theorem rbook_3 (w : World) : Calls Tryz.prog 184 #[.int .i64 3] w fun e w' => ∃ v, e = .returned (.tuple #[v, .int .i64 0]) ∧ IsI w' v (bk 3) ∧ Below w.heap.size w w' := by
 have hown0 := World.ownsRow_lit w #[] 0 (base := w.heap.size) (e := 2) (size := 1) (Nat.le_refl _) (by unfold maxLen; omega) rfl
 go_enter Tryz.func184, Tryz.ntmps184
 go_wp2
 go_loopw [5, 4] (fun i o wr => ∃ (j : Nat) (l : List Int), j ≤ 256 ∧ i = .int .i64 (j : Nat) ∧ Hid (l = (bk 3).take j) ∧ l.length ≤ 256 ∧ wr.ownsRow w.heap.size 2 1 o l.length (is l) ∧ Below w.heap.size w wr) (fun i _ _ => 256 - (intOf i).toNat)
 case atStart => exact ⟨0, [], by omega, rfl, Lib.hid rfl, by simp, hown0, (Below.refl _ w).alloc (Nat.le_refl _) _⟩
 case round =>
   obtain ⟨j, l, hj, rfl, hl, hll, hown, hB⟩ := hrel
   by_cases hlt : j < 256
   · obtain ⟨x, hx⟩ : ∃ x : Int, x = (j : Int) := ⟨_, rfl⟩
     have hsn : Hid ((bk 3).take (j + 1) = l ++ [x]) := by
       rw [Hid, hl.out, bk_snoc 3 (by omega) _ hlt, line_3 j hlt, hx]
     clear hl
     have Hx := Lib.hid hx
     clear hx
     go_wp2_with (at_builtin; go_must (refine wpList_app1 _ rfl _ _ 62 2 (.int .i64 0) 8 rfl Tryz.underlying62 info_i64 rfl w.heap.size (.int .i64 (j : Int)) rfl _ l.length (is l) rfl (hown.alloc _) ⟨wr.heap.size, 0, none⟩ rfl (by simp) (by omega) (by omega) (by have := hB.size; simp; omega) ?_; intro v' w1 hown' hgrow; obtain ⟨g', cap', rfl⟩ := ownsRow_succ hown'; obtain ⟨hbl, hko⟩ := bx_app hown hB.size hgrow))
     refine ⟨⟨j + 1, l ++ [x], by omega, by go_num, Lib.hid hsn.out.symm, by rw [← hsn.out, List.length_take, bk_len 3 (by omega)]; omega, ?_, hB.trans (hbl.mono (by omega))⟩, by simp [intOf]; omega⟩
     rw [is_snoc, List.length_append, List.length_singleton]; rw [Hx.out]; exact hown'
   · obtain rfl : j = 256 := by omega
     have hL : l = bk 3 := by rw [hl.out, List.take_of_length_le (by rw [bk_len 3 (by omega)]; omega)]
     have HL := Lib.hid hL
     clear hL hl
     go_wp2
     go_ret2
     refine ⟨_, rfl, ?_, hB⟩
     rw [← HL.out]
     exact IsI.of_own hown
set_option maxHeartbeats 1000000 in
theorem rbook_0 (w : World) : Calls Tryz.prog 184 #[.int .i64 0] w fun e w' => ∃ v, e = .returned (.tuple #[v, .int .i64 0]) ∧ IsI w' v (bk 0) ∧ Below w.heap.size w w' := by
 have hT := tree_s w
 go_enter Tryz.func184, Tryz.ntmps184
 go_wp2_with fail
 refine hT.mono ?_
 rintro e w1 ⟨v, rfl, h1, b1⟩
 go_wp2
 go_ret2
 exact ⟨_, rfl, h1, b1⟩
set_option maxHeartbeats 1000000 in
theorem rbook_1 (w : World) : Calls Tryz.prog 184 #[.int .i64 1] w fun e w' => ∃ v, e = .returned (.tuple #[v, .int .i64 0]) ∧ IsI w' v (bk 1) ∧ Below w.heap.size w w' := by
 have hT := tree_u w
 go_enter Tryz.func184, Tryz.ntmps184
 go_wp2_with fail
 refine hT.mono ?_
 rintro e w1 ⟨v, rfl, h1, b1⟩
 go_wp2
 go_ret2
 exact ⟨_, rfl, h1, b1⟩
set_option maxHeartbeats 1000000 in
theorem rbook_none (k : Int) (w : World) (h0 : (k == 0) = false) (h1 : (k == 1) = false) (h2 : (k == 2) = false) (h3 : (k == 3) = false) : Calls Tryz.prog 184 #[.int .i64 k] w fun e w' => e = .returned (.tuple #[.slice none 0 0, .int .i64 1]) ∧ w = w' := by
 have h4 : (k != 2) = true := by simpa using h2
 have h5 : (k != 3) = true := by simpa using h3
 go_enter Tryz.func184, Tryz.ntmps184
 go_wp2
 go_ret2
 exact ⟨rfl, rfl⟩
theorem rbook_any (k : Int) (w : World) :
   Calls Tryz.prog 184 #[.int .i64 k] w fun e w' => ∃ v, e = .returned (.tuple #[v, .int .i64 (bke k)]) ∧ IsI w' v (bkz k) ∧ Below w.heap.size w w' := by
 rcases kind_cases k with rfl | rfl | rfl | rfl | ⟨h0, h1, h2, h3⟩
 · exact rbook_0 w
 · exact rbook_1 w
 · exact rbook_2 w
 · exact rbook_3 w
 · refine (rbook_none k w h0 h1 h2 h3).mono ?_
   rintro e w' ⟨rfl, rfl⟩
   simp only [beq_eq_false_iff_ne] at h0 h1 h2 h3
   refine ⟨_, by rw [bke, if_neg (by omega)], ?_, Below.refl _ _⟩
   rw [bkz, if_neg h0, if_neg h1, if_neg h2, if_neg h3]
   exact IsI.nil _
set_option maxRecDepth 100000 in
set_option maxHeartbeats 2000000 in
theorem rgap_any (k : Int) (w : World) :
   Calls Tryz.prog 126 #[.int .i64 k] w fun e w' => e = .returned (.int .i64 (gz k)) ∧ Below w.heap.size w w' := by
 have hB := rbook_any k w
 by_cases hk : 0 ≤ k ∧ k ≤ 3
 · obtain ⟨hlen, hinb⟩ := bkz_in k hk
   have hin := Lib.hid (inb_at hinb)
   have hgin := Lib.hid (gapTo_in hinb)
   have hmx := @run_max_int Tryz.prog
   have hg : Hid (gz k = gapTo (bkz k) 255) := by rw [Hid, gz, hlen]
   clear hinb
   generalize bkz k = l at hB hlen hin hgin hg
   generalize bke k = ee at hB
   go_enter Tryz.func126, Tryz.ntmps126
   go_wp2_with fail
   refine hB.mono ?_
   rintro e w1 ⟨v, rfl, h1, hbl⟩
   clear hB
   obtain ⟨ad, c, rfl, hc1, hc2, hadb, hcell0, hcell⟩ := h1.open_ (by omega)
   rw [hlen] at hc1 hcell
   rw [hlen]
   clear hlen h1
   have hcs : Hid (∀ j, j < 256 → w1.cell? (ad.add j) = some (.int .i64 (iat l j))) := Lib.hid hcell
   clear hcell
   go_wp2
   go_loopw [6, 5] (fun i g wr => ∃ (j q : Nat), j ≤ 255 ∧ i = .int .i64 ((j + 1 : Nat) : Int) ∧ g = .int .i64 (gapTo l j) ∧ wr = w1.drewN q) (fun i _ _ => 256 - (intOf i).toNat)
   case atStart => exact ⟨0, 0, by omega, rfl, rfl, rfl⟩
   case round =>
     obtain ⟨j, q, hj, rfl, rfl, rfl⟩ := hrel
     by_cases hlt : j < 255
     · have cj := hcs.out j (by omega)
       have cj1 := hcs.out (j + 1) (by omega)
       have i0 := hin.out j
       have i1 := hin.out (j + 1)
       have i2 := hgin.out j
       have hsu : Hid (gapTo l (j + 1) = max (gapTo l j) (iat l (j + 1) - iat l j)) := Lib.hid rfl
       obtain ⟨i, hi⟩ : ∃ i, i = j + 1 := ⟨_, rfl⟩
       have hcast : ((i : Nat) : Int) - 1 = (j : Int) := by omega
       rw [← hi] at cj1 hsu i1 ⊢
       have hge1 : ((0 : Int) ≤ (j : Int)) := by omega
       have hlt1 : (j : Int) < 256 := by omega
       have hge2 : ((0 : Int) ≤ (i : Int)) := by omega
       have hlt2 : (i : Int) < 256 := by omega
       have hw : IntKind.i64.wrap ((i : Int) - 1) = (j : Int) := by rw [hcast, IntKind.wrap_i64]; omega
       have hw2 : IntKind.i64.wrap (iat l i - iat l j) = iat l i - iat l j := by rw [IntKind.wrap_i64]; omega
       have Hi := Lib.hid hi
       clear hi hcast
       go_wp2
       go_region
       all_goals go_wp2
       refine ⟨⟨j + 1, q + 1, by omega, ?_, ?_, rfl⟩, by simp [intOf]; omega⟩
       · rw [← Hi.out]; go_num
       · rw [← Hi.out, hsu.out]
     · obtain rfl : j = 255 := by omega
       go_wp2
       go_ret
       exact ⟨by rw [hg.out]; rfl, below_drewN hbl _⟩
 · obtain ⟨e1, _, e2, e3⟩ := gap_none k hk
   rw [e1]
   rw [e2, e3] at hB
   clear e1 e2 e3
   go_enter Tryz.func126, Tryz.ntmps126
   go_wp2_with fail
   refine hB.mono ?_
   rintro e w1 ⟨v, rfl, ⟨A, c, rfl, _⟩, hbl⟩
   go_wp2
   go_loopw [6, 5] (fun i g wr => i = .int .i64 1 ∧ g = .int .i64 0 ∧ wr = w1) (fun i _ _ => 0)
   case atStart => exact ⟨rfl, rfl, rfl⟩
   case round =>
     obtain ⟨rfl, rfl, rfl⟩ := hrel
     go_wp2
     go_ret
     exact ⟨rfl, hbl⟩
end Go.Proofs.YtdnjdglekifhpaaGreat
namespace Go.Proofs.YtdnjdglekifhpaaGreat
open Go.RowKit
attribute [local go_sem ↓] Go.wp_at_zero Go.wp_at_succ
def fewS (bs : List Bk) : Bool := decide (bs.length ≤ 24) && decide (lenS bs ≤ 24)
theorem lenS_le : ∀ {bs : List Bk}, (∀ b ∈ bs, bkLen b ≤ 281474976710656) → lenS bs ≤ 281474976710656 * bs.length
 | [], _ => by simp [lenS]
 | b :: r, h => by
   have h1 := h b (by simp)
   have h2 := lenS_le (bs := r) fun x hx => h x (by simp [hx])
   simp only [lenS, List.length_cons]; omega
theorem lenS_mem : ∀ {bs : List Bk} {b : Bk}, b ∈ bs → bkLen b ≤ lenS bs
 | x :: r, b, h => by
   simp only [lenS]
   rcases List.mem_cons.1 h with rfl | h
   · omega
   · have := lenS_mem h; omega
set_option maxRecDepth 100000 in
set_option maxHeartbeats 2000000 in
theorem rfew14_few (v : Value) (s : St) (w : World) (h : IsSt w v s) (hin : ∀ b ∈ s.2.2.2.2.2, BkIn b) (hn : s.2.2.2.2.2.length ≤ 24) :
   Calls Tryz.prog 10 #[v, .int .i64 24] w fun e w' => e = .returned (.bool (decide (lenS s.2.2.2.2.2 ≤ 24))) ∧ Below w.heap.size w w' := by
 obtain ⟨k, z, m, o, n, bs⟩ := s
 obtain ⟨x, rfl, hb⟩ := h
 simp only at *
 obtain ⟨A, c, rfl, hc1, hc2⟩ := hb.len
 obtain ⟨W0, hW, hR, hB⟩ := box1 w 26 #[.int .i64 k, .int .i64 z, .int .i64 m, .int .i64 o, .int .i64 n, .slice A bs.length c]
 obtain ⟨g, hg⟩ : ∃ g, g = w.heap.size := ⟨_, rfl⟩
 have hW' := Lib.hid (And.intro hW hg)
 rw [← hg] at hR
 clear hW hg
 replace hb := hb.below hB
 have c5 := hR.cell 5
 go_enter Tryz.func10, Tryz.ntmps10
 go_upto_block 0 with fail
 rw [← hW'.out.1, ← hW'.out.2]
 go_wp2_with fail
 go_loopw [6, 5] (fun i t wr => ∃ j : Nat, i = .int .i64 j ∧ j ≤ bs.length ∧ (t = .int .i64 (lenS (bs.take j) : Nat)) ∧ Below W0.heap.size W0 wr) (fun i _ _ => bs.length - (intOf i).toNat)
 case atStart => exact ⟨0, rfl, by omega, rfl, Below.refl _ _⟩
 case round =>
   obtain ⟨j, rfl, hj, rfl, bl⟩ := hrel
   have c5 := (hR.below bl hR.lt).cell 5
   by_cases hlt : j < bs.length
   · obtain ⟨ad, c', k1, s1, cs, wd, a1, b1, e1, _, hat, x0, x1, x2, x3, hy, hi1⟩ := (hb.below bl).at_ hlt
     obtain ⟨rfl, _, rfl⟩ := Value.slice.inj e1
     obtain ⟨A2, C2, rfl, _, _⟩ := id hy.form
     obtain ⟨A3, C3, rfl, _, _⟩ := id hi1.form
     have i0 : (0 : Int) ≤ (j : Int) := by omega
     have i1 : (j : Int) < (bs.length : Int) := by omega
     obtain ⟨_, _, _, l1, l2⟩ := hin _ (mem_at hat)
     simp only at l1 l2
     have hL := fun w h => rblen_any (.agg #[.int .i64 k1, .int .i64 s1, .slice A2 cs.length C2, .slice A3 wd.length C3]) k1 s1 cs wd w h (by omega) l2
     have hbk : IsBk wr (.agg #[.int .i64 k1, .int .i64 s1, .slice A2 cs.length C2, .slice A3 wd.length C3]) k1 s1 cs wd := ⟨_, _, rfl, hy, hi1⟩
     have HS := Lib.hid (show lenS (bs.take (j + 1)) = lenS (bs.take j) + (cs.length + wd.length) by rw [take_bk hat, lenS_snoc]; rfl)
     have hq := lenS_le (bs := bs.take j) (fun b hb' => by
       obtain ⟨_, _, _, q1, q2⟩ := hin b (List.mem_of_mem_take hb')
       unfold bkLen; omega)
     rw [List.length_take, Nat.min_eq_left hj] at hq
     have hq2 : lenS (bs.take j) ≤ 6755399441055744 := by omega
     generalize lenS (bs.take j) = t0 at *
     have hw1 : IntKind.i64.wrap ((t0 : Int) + ((cs.length : Int) + (wd.length : Int))) = ((t0 + (cs.length + wd.length) : Nat) : Int) := by rw [IntKind.wrap_i64]; omega
     have q0 : (0 : Int) ≤ (t0 : Int) := by omega
     have q1 : (t0 : Int) ≤ 6755399441055744 := by omega
     have q2 : (cs.length : Int) ≤ 140737488351232 := by omega
     have q3 : (wd.length : Int) ≤ 17592186044416 := by omega
     have HW1 := Lib.hid hw1
     clear hq hq2 hw1 hat hy hi1
     go_wp2_with fail
     refine (hL _ hbk).mono ?_
     rintro e w1 ⟨rfl, B1⟩
     go_wp2
     exact ⟨⟨j + 1, by go_num, by omega, by first | (rw [HS.out]; done) | (rw [HS.out]; congr 1; done) | (rw [HS.out]; congr 1; omega), bstep bl B1⟩, by simp [intOf]; omega⟩
   · obtain rfl : j = bs.length := by omega
     rw [List.take_length]
     have n1 : decide ((bs.length : Int) ≤ 24) = true := decide_eq_true (by omega)
     have n2 : decide (bs.length ≤ 24) = true := decide_eq_true hn
     by_cases hy : lenS bs ≤ 24
     · have n3 : decide ((lenS bs : Int) ≤ 24) = true := decide_eq_true (by omega)
       have N4 := Lib.hid (decide_eq_true hy)
       clear hy
       go_wp2
       go_ret
       exact ⟨congrArg (fun b => Ending.returned (Value.bool b)) N4.out.symm, hB.trans (bl.mono hB.size)⟩
     · have n3 : decide ((lenS bs : Int) ≤ 24) = false := decide_eq_false (by omega)
       have N4 := Lib.hid (decide_eq_false hy)
       clear hy
       go_wp2
       go_ret
       exact ⟨congrArg (fun b => Ending.returned (Value.bool b)) N4.out.symm, hB.trans (bl.mono hB.size)⟩
set_option maxRecDepth 100000 in
set_option maxHeartbeats 2000000 in
theorem rfew14_many (v : Value) (s : St) (w : World) (h : IsSt w v s) (hin : ∀ b ∈ s.2.2.2.2.2, BkIn b) (hn : ¬ s.2.2.2.2.2.length ≤ 24) :
   Calls Tryz.prog 10 #[v, .int .i64 24] w fun e w' => e = .returned (.bool false) ∧ Below w.heap.size w w' := by
 obtain ⟨k, z, m, o, n, bs⟩ := s
 obtain ⟨x, rfl, hb⟩ := h
 simp only at *
 obtain ⟨A, c, rfl, hc1, hc2⟩ := hb.len
 obtain ⟨W0, hW, hR, hB⟩ := box1 w 26 #[.int .i64 k, .int .i64 z, .int .i64 m, .int .i64 o, .int .i64 n, .slice A bs.length c]
 obtain ⟨g, hg⟩ : ∃ g, g = w.heap.size := ⟨_, rfl⟩
 have hW' := Lib.hid (And.intro hW hg)
 rw [← hg] at hR
 clear hW hg
 replace hb := hb.below hB
 have c5 := hR.cell 5
 go_enter Tryz.func10, Tryz.ntmps10
 go_upto_block 0 with fail
 rw [← hW'.out.1, ← hW'.out.2]
 go_wp2_with fail
 go_loopw [6, 5] (fun i t wr => ∃ j : Nat, i = .int .i64 j ∧ j ≤ bs.length ∧ (∃ y : Int, t = .int .i64 y) ∧ Below W0.heap.size W0 wr) (fun i _ _ => bs.length - (intOf i).toNat)
 case atStart => exact ⟨0, rfl, by omega, ⟨_, rfl⟩, Below.refl _ _⟩
 case round =>
   obtain ⟨j, rfl, hj, ⟨y, rfl⟩, bl⟩ := hrel
   have c5 := (hR.below bl hR.lt).cell 5
   by_cases hlt : j < bs.length
   · obtain ⟨ad, c', k1, s1, cs, wd, a1, b1, e1, _, hat, x0, x1, x2, x3, hy, hi1⟩ := (hb.below bl).at_ hlt
     obtain ⟨rfl, _, rfl⟩ := Value.slice.inj e1
     obtain ⟨A2, C2, rfl, _, _⟩ := id hy.form
     obtain ⟨A3, C3, rfl, _, _⟩ := id hi1.form
     have i0 : (0 : Int) ≤ (j : Int) := by omega
     have i1 : (j : Int) < (bs.length : Int) := by omega
     obtain ⟨_, _, _, l1, l2⟩ := hin _ (mem_at hat)
     simp only at l1 l2
     have hL := fun w h => rblen_any (.agg #[.int .i64 k1, .int .i64 s1, .slice A2 cs.length C2, .slice A3 wd.length C3]) k1 s1 cs wd w h (by omega) l2
     have hbk : IsBk wr (.agg #[.int .i64 k1, .int .i64 s1, .slice A2 cs.length C2, .slice A3 wd.length C3]) k1 s1 cs wd := ⟨_, _, rfl, hy, hi1⟩
     obtain ⟨y2, hy2⟩ : ∃ y2 : Int, y2 = (cs.length : Int) + wd.length := ⟨_, rfl⟩
     rw [← hy2] at hL
     clear hy2 hat hy hi1
     go_wp2_with fail
     refine (hL _ hbk).mono ?_
     rintro e w1 ⟨rfl, B1⟩
     go_wp2
     exact ⟨⟨j + 1, by go_num, by omega, ⟨_, rfl⟩, bstep bl B1⟩, by simp [intOf]; omega⟩
   · obtain rfl : j = bs.length := by omega
     have n1 : decide ((bs.length : Int) ≤ 24) = false := decide_eq_false (by omega)
     have n2 : decide (bs.length ≤ 24) = false := decide_eq_false hn
     rcases Int.lt_or_le 24 y with hy | hy
     · have n3 : decide (y ≤ 24) = false := decide_eq_false (by omega)
       clear hy
       go_wp2
       go_ret
       exact ⟨rfl, hB.trans (bl.mono hB.size)⟩
     · have n3 : decide (y ≤ 24) = true := decide_eq_true hy
       clear hy
       go_wp2
       go_ret
       exact ⟨rfl, hB.trans (bl.mono hB.size)⟩
theorem rfew14_any (v : Value) (s : St) (w : World) (h : IsSt w v s) (hin : ∀ b ∈ s.2.2.2.2.2, BkIn b) :
   Calls Tryz.prog 10 #[v, .int .i64 24] w fun e w' => e = .returned (.bool (fewS s.2.2.2.2.2)) ∧ Below w.heap.size w w' := by
 unfold fewS
 by_cases hn : s.2.2.2.2.2.length ≤ 24
 · rw [decide_eq_true hn, Bool.true_and]; exact rfew14_few v s w h hin hn
 · rw [decide_eq_false hn, Bool.false_and]; exact rfew14_many v s w h hin hn
end Go.Proofs.YtdnjdglekifhpaaGreat
namespace Go.Proofs.YtdnjdglekifhpaaGreat
open Go.RowKit
attribute [local go_sem ↓] Go.wp_at_zero Go.wp_at_succ
set_option maxRecDepth 100000 in
set_option maxHeartbeats 8000000 in
theorem pnext_b0 (beta f : Int) (va vm : Value) (a m : Rat) (w : World) (ha : IsQ w va a) (hm : IsQ w vm m) (hf : f < 0 ∨ 40 < f) :
   Calls Tryz.prog 17 #[.int .i64 beta, .int .i64 f, va, vm] w fun e w' => e = .returned (.tuple #[.agg #[.bool false, .slice none 0 0, .slice none 0 0], .int .i64 1]) ∧ Below w.heap.size w w' := by
 obtain ⟨s1, A1, L1, C1, D1, M1, E1, rfl, q1⟩ := ha.opn
 obtain ⟨s2, A2, L2, C2, D2, M2, E2, rfl, q2⟩ := hm.opn
 have hN := fun w => pnum_bad beta f w hf
 clear hf
 clear ha hm q1 q2
 obtain ⟨g, hg⟩ : ∃ g, g = w.heap.size := ⟨_, rfl⟩
 obtain ⟨Y0, eY0, hA, bY0⟩ := box1 w 32 #[.bool s1, .slice A1 L1 C1, .slice D1 M1 E1]
 have zY0 : Y0.heap.size = g + 1 := by rw [eY0, World.size_alloc, ← hg]
 rw [← hg] at hA
 have hB := bY0
 obtain ⟨Y1, eY1, hM, bY1⟩ := box1 Y0 32 #[.bool s2, .slice A2 L2 C2, .slice D2 M2 E2]
 have zY1 : Y1.heap.size = g + 1 + 1 := by rw [eY1, World.size_alloc, zY0]
 rw [zY0] at hM
 replace hA := hA.below bY1 hA.lt
 replace hB := hB.trans (bY1.mono hB.size)
 obtain ⟨Y2, eY2, hR, bY2⟩ := box1 Y1 32 #[.bool false, .slice none 0 0, .slice none 0 0]
 have zY2 : Y2.heap.size = g + 1 + 1 + 1 := by rw [eY2, World.size_alloc, zY1]
 rw [zY1] at hR
 replace hA := hA.below bY2 hA.lt
 replace hM := hM.below bY2 hM.lt
 replace hB := hB.trans (bY2.mono hB.size)
 have hgw : w.heap.size ≤ g := by omega
 have EY := Lib.hid (And.intro hg (And.intro eY0 (And.intro eY1 eY2)))
 clear hg eY0 zY0 eY1 zY1 eY2 zY2
 obtain ⟨c0, c1, c2⟩ := hA.q3
 obtain ⟨c3, c4, c5⟩ := hM.q3
 obtain ⟨c6, c7, c8⟩ := hR.q3
 go_enter Tryz.func17, Tryz.ntmps17
 go_wp2_with fail
 rw [← EY.out.2.1, ← EY.out.2.2.1, ← EY.out.2.2.2, ← EY.out.1]
 refine (hN _).mono ?_
 rintro e w2 ⟨rfl, b2⟩
 replace hA := hA.below b2 hA.lt
 replace hM := hM.below b2 hM.lt
 replace hR := hR.below b2 hR.lt
 replace hB := hB.trans (b2.mono hB.size)
 clear c0 c1 c2 c3 c4 c5 c6 c7 c8
 obtain ⟨c9, c10, c11⟩ := hA.q3
 obtain ⟨c12, c13, c14⟩ := hM.q3
 obtain ⟨c15, c16, c17⟩ := hR.q3
 obtain ⟨V4, eV, hV, bV4⟩ := box1 w2 32 #[.bool false, .slice none 0 0, .slice none 0 0]
 obtain ⟨X4, eX⟩ : ∃ X, X = w2.heap.size := ⟨_, rfl⟩
 rw [← eX] at hV
 have lX4 : w.heap.size ≤ X4 := by rw [eX]; exact hB.size
 have dX4_hA : g ≠ X4 := by have := hA.lt; omega
 have dX4_hM : g + 1 ≠ X4 := by have := hM.lt; omega
 have dX4_hR : g + 1 + 1 ≠ X4 := by have := hR.lt; omega
 have EV4 := Lib.hid (And.intro eV eX)
 clear eV eX
 go_upto_region 2 with fail
 rw [← EV4.out.1, ← EV4.out.2]
 replace hA := hA.below bV4 hA.lt
 replace hM := hM.below bV4 hM.lt
 replace hR := hR.below bV4 hR.lt
 replace hB := hB.trans (bV4.mono hB.size)
 clear c9 c10 c11 c12 c13 c14 c15 c16 c17
 obtain ⟨c18, c19, c20⟩ := hA.q3
 obtain ⟨c21, c22, c23⟩ := hM.q3
 obtain ⟨c24, c25, c26⟩ := hR.q3
 obtain ⟨c27, c28, c29⟩ := hV.q3
 obtain ⟨p1, p2, p3⟩ := put3 hR (.bool false) (.slice none 0 0) (.slice none 0 0) (by simp [noU]) hB (by omega)
 have rc0 : World.cell? _ ⟨g + 1 + 1, 0, none⟩ = some (.bool false) := hR.cell 0
 have rf0 := hR.frozen 0
 have rc1 : World.cell? _ ⟨g + 1 + 1, 1, none⟩ = some (.slice none 0 0) := hR.cell 1
 have rf1 := hR.frozen 1
 have rc2 : World.cell? _ ⟨g + 1 + 1, 2, none⟩ = some (.slice none 0 0) := hR.cell 2
 have rf2 := hR.frozen 2
 have P := Lib.hid (And.intro trivial (And.intro p3 p1.cells3))
 clear p1 p2 p3
 go_wp2_with fail
 obtain ⟨P1, P2, P3, P4, P5⟩ := P.out
 exact bodyPost_ret (v := .tuple #[.agg #[.bool false, .slice none 0 0, .slice none 0 0], .int .i64 1]) (by simp [results, Tryz.results17, go_sem, P3, P4, P5]) rfl ⟨rfl, P2⟩
set_option maxRecDepth 100000 in
set_option maxHeartbeats 8000000 in
theorem pnext_b1 (beta f : Int) (va vm : Value) (a m : Rat) (w : World) (ha : IsQ w va a) (hm : IsQ w vm m) (hf0 : 0 ≤ f) (hf1 : f ≤ 40) (hb : In64 beta) (hb0 : beta < 0) :
   Calls Tryz.prog 17 #[.int .i64 beta, .int .i64 f, va, vm] w fun e w' => e = .returned (.tuple #[.agg #[.bool false, .slice none 0 0, .slice none 0 0], .int .i64 1]) ∧ Below w.heap.size w w' := by
 obtain ⟨s1, A1, L1, C1, D1, M1, E1, rfl, q1⟩ := ha.opn
 obtain ⟨s2, A2, L2, C2, D2, M2, E2, rfl, q2⟩ := hm.opn
 obtain ⟨k, rfl⟩ : ∃ k : Nat, f = (k : Int) := ⟨f.toNat, by omega⟩
 have hk : k ≤ 40 := by omega
 have hN := fun w => pnum_any beta k w hk hb
 generalize mkRat beta (2 ^ k) = x at *
 have hd0 : decide (beta < 0) = true := decide_eq_true hb0
 clear hb hf0 hf1
 clear ha hm q1 q2
 obtain ⟨g, hg⟩ : ∃ g, g = w.heap.size := ⟨_, rfl⟩
 obtain ⟨Y0, eY0, hA, bY0⟩ := box1 w 32 #[.bool s1, .slice A1 L1 C1, .slice D1 M1 E1]
 have zY0 : Y0.heap.size = g + 1 := by rw [eY0, World.size_alloc, ← hg]
 rw [← hg] at hA
 have hB := bY0
 obtain ⟨Y1, eY1, hM, bY1⟩ := box1 Y0 32 #[.bool s2, .slice A2 L2 C2, .slice D2 M2 E2]
 have zY1 : Y1.heap.size = g + 1 + 1 := by rw [eY1, World.size_alloc, zY0]
 rw [zY0] at hM
 replace hA := hA.below bY1 hA.lt
 replace hB := hB.trans (bY1.mono hB.size)
 obtain ⟨Y2, eY2, hR, bY2⟩ := box1 Y1 32 #[.bool false, .slice none 0 0, .slice none 0 0]
 have zY2 : Y2.heap.size = g + 1 + 1 + 1 := by rw [eY2, World.size_alloc, zY1]
 rw [zY1] at hR
 replace hA := hA.below bY2 hA.lt
 replace hM := hM.below bY2 hM.lt
 replace hB := hB.trans (bY2.mono hB.size)
 have hgw : w.heap.size ≤ g := by omega
 have EY := Lib.hid (And.intro hg (And.intro eY0 (And.intro eY1 eY2)))
 clear hg eY0 zY0 eY1 zY1 eY2 zY2
 obtain ⟨c0, c1, c2⟩ := hA.q3
 obtain ⟨c3, c4, c5⟩ := hM.q3
 obtain ⟨c6, c7, c8⟩ := hR.q3
 go_enter Tryz.func17, Tryz.ntmps17
 go_wp2_with fail
 rw [← EY.out.2.1, ← EY.out.2.2.1, ← EY.out.2.2.2, ← EY.out.1]
 refine (hN _).mono ?_
 rintro e w2 ⟨v3, rfl, q3, b2⟩
 replace hA := hA.below b2 hA.lt
 replace hM := hM.below b2 hM.lt
 replace hR := hR.below b2 hR.lt
 replace hB := hB.trans (b2.mono hB.size)
 clear c0 c1 c2 c3 c4 c5 c6 c7 c8
 obtain ⟨c9, c10, c11⟩ := hA.q3
 obtain ⟨c12, c13, c14⟩ := hM.q3
 obtain ⟨c15, c16, c17⟩ := hR.q3
 obtain ⟨s3, A3, L3, C3, D3, M3, E3, rfl, q3⟩ := q3.opn
 obtain ⟨V4, eV, hV, bV4⟩ := box1 w2 32 #[.bool s3, .slice A3 L3 C3, .slice D3 M3 E3]
 obtain ⟨X4, eX⟩ : ∃ X, X = w2.heap.size := ⟨_, rfl⟩
 rw [← eX] at hV
 have lX4 : w.heap.size ≤ X4 := by rw [eX]; exact hB.size
 have dX4_hA : g ≠ X4 := by have := hA.lt; omega
 have dX4_hM : g + 1 ≠ X4 := by have := hM.lt; omega
 have dX4_hR : g + 1 + 1 ≠ X4 := by have := hR.lt; omega
 have EV4 := Lib.hid (And.intro eV eX)
 clear eV eX
 go_upto_region 2 with fail
 rw [← EV4.out.1, ← EV4.out.2]
 replace hA := hA.below bV4 hA.lt
 replace hM := hM.below bV4 hM.lt
 replace hR := hR.below bV4 hR.lt
 replace hB := hB.trans (bV4.mono hB.size)
 clear c9 c10 c11 c12 c13 c14 c15 c16 c17
 obtain ⟨c18, c19, c20⟩ := hA.q3
 obtain ⟨c21, c22, c23⟩ := hM.q3
 obtain ⟨c24, c25, c26⟩ := hR.q3
 obtain ⟨c27, c28, c29⟩ := hV.q3
 obtain ⟨p1, p2, p3⟩ := put3 hR (.bool false) (.slice none 0 0) (.slice none 0 0) (by simp [noU]) hB (by omega)
 have rc0 : World.cell? _ ⟨g + 1 + 1, 0, none⟩ = some (.bool false) := hR.cell 0
 have rf0 := hR.frozen 0
 have rc1 : World.cell? _ ⟨g + 1 + 1, 1, none⟩ = some (.slice none 0 0) := hR.cell 1
 have rf1 := hR.frozen 1
 have rc2 : World.cell? _ ⟨g + 1 + 1, 2, none⟩ = some (.slice none 0 0) := hR.cell 2
 have rf2 := hR.frozen 2
 have P := Lib.hid (And.intro trivial (And.intro p3 p1.cells3))
 clear p1 p2 p3
 go_wp2_with fail
 obtain ⟨P1, P2, P3, P4, P5⟩ := P.out
 exact bodyPost_ret (v := .tuple #[.agg #[.bool false, .slice none 0 0, .slice none 0 0], .int .i64 1]) (by simp [results, Tryz.results17, go_sem, P3, P4, P5]) rfl ⟨rfl, P2⟩
set_option maxRecDepth 100000 in
set_option maxHeartbeats 8000000 in
theorem pnext_b2 (beta f : Int) (va vm : Value) (a m : Rat) (w : World) (ha : IsQ w va a) (hm : IsQ w vm m) (hf0 : 0 ≤ f) (hf1 : f ≤ 40) (hb : In64 beta) (hb0 : ¬ beta < 0) (hb1 : (2 : Int) ^ f.toNat < beta) :
   Calls Tryz.prog 17 #[.int .i64 beta, .int .i64 f, va, vm] w fun e w' => e = .returned (.tuple #[.agg #[.bool false, .slice none 0 0, .slice none 0 0], .int .i64 1]) ∧ Below w.heap.size w w' := by
 obtain ⟨s1, A1, L1, C1, D1, M1, E1, rfl, q1⟩ := ha.opn
 obtain ⟨s2, A2, L2, C2, D2, M2, E2, rfl, q2⟩ := hm.opn
 obtain ⟨k, rfl⟩ : ∃ k : Nat, f = (k : Int) := ⟨f.toNat, by omega⟩
 have hk : k ≤ 40 := by omega
 have hN := fun w => pnum_any beta k w hk hb
 generalize mkRat beta (2 ^ k) = x at *
 rw [Int.toNat_natCast] at hb1
 have hP40 : 2 ^ k ≤ 2 ^ 40 := Nat.pow_le_pow_right (by omega) hk
 have hPi : ((2 ^ k : Nat) : Int) = (2 : Int) ^ k := by simp
 obtain ⟨P, hP⟩ : ∃ P, P = 2 ^ k := ⟨_, rfl⟩
 rw [← hP] at hP40 hPi
 have w1 : IntKind.i64.wrap ((2 : Int) ^ k) = (P : Int) := by rw [← hPi, IntKind.wrap_i64]; omega
 have w2 : IntKind.i64.wrap (1 * (2 : Int) ^ k) = (P : Int) := by rw [Int.one_mul]; exact w1
 rw [← hPi] at hb1
 clear hP hPi hP40
 have hd0 : decide (beta < 0) = false := decide_eq_false hb0
 have hd1 : decide ((P : Int) < beta) = true := decide_eq_true hb1
 clear hb hf0 hf1
 clear ha hm q1 q2
 obtain ⟨g, hg⟩ : ∃ g, g = w.heap.size := ⟨_, rfl⟩
 obtain ⟨Y0, eY0, hA, bY0⟩ := box1 w 32 #[.bool s1, .slice A1 L1 C1, .slice D1 M1 E1]
 have zY0 : Y0.heap.size = g + 1 := by rw [eY0, World.size_alloc, ← hg]
 rw [← hg] at hA
 have hB := bY0
 obtain ⟨Y1, eY1, hM, bY1⟩ := box1 Y0 32 #[.bool s2, .slice A2 L2 C2, .slice D2 M2 E2]
 have zY1 : Y1.heap.size = g + 1 + 1 := by rw [eY1, World.size_alloc, zY0]
 rw [zY0] at hM
 replace hA := hA.below bY1 hA.lt
 replace hB := hB.trans (bY1.mono hB.size)
 obtain ⟨Y2, eY2, hR, bY2⟩ := box1 Y1 32 #[.bool false, .slice none 0 0, .slice none 0 0]
 have zY2 : Y2.heap.size = g + 1 + 1 + 1 := by rw [eY2, World.size_alloc, zY1]
 rw [zY1] at hR
 replace hA := hA.below bY2 hA.lt
 replace hM := hM.below bY2 hM.lt
 replace hB := hB.trans (bY2.mono hB.size)
 have hgw : w.heap.size ≤ g := by omega
 have EY := Lib.hid (And.intro hg (And.intro eY0 (And.intro eY1 eY2)))
 clear hg eY0 zY0 eY1 zY1 eY2 zY2
 obtain ⟨c0, c1, c2⟩ := hA.q3
 obtain ⟨c3, c4, c5⟩ := hM.q3
 obtain ⟨c6, c7, c8⟩ := hR.q3
 go_enter Tryz.func17, Tryz.ntmps17
 go_wp2_with fail
 rw [← EY.out.2.1, ← EY.out.2.2.1, ← EY.out.2.2.2, ← EY.out.1]
 refine (hN _).mono ?_
 rintro e w2 ⟨v3, rfl, q3, b2⟩
 replace hA := hA.below b2 hA.lt
 replace hM := hM.below b2 hM.lt
 replace hR := hR.below b2 hR.lt
 replace hB := hB.trans (b2.mono hB.size)
 clear c0 c1 c2 c3 c4 c5 c6 c7 c8
 obtain ⟨c9, c10, c11⟩ := hA.q3
 obtain ⟨c12, c13, c14⟩ := hM.q3
 obtain ⟨c15, c16, c17⟩ := hR.q3
 obtain ⟨s3, A3, L3, C3, D3, M3, E3, rfl, q3⟩ := q3.opn
 obtain ⟨V4, eV, hV, bV4⟩ := box1 w2 32 #[.bool s3, .slice A3 L3 C3, .slice D3 M3 E3]
 obtain ⟨X4, eX⟩ : ∃ X, X = w2.heap.size := ⟨_, rfl⟩
 rw [← eX] at hV
 have lX4 : w.heap.size ≤ X4 := by rw [eX]; exact hB.size
 have dX4_hA : g ≠ X4 := by have := hA.lt; omega
 have dX4_hM : g + 1 ≠ X4 := by have := hM.lt; omega
 have dX4_hR : g + 1 + 1 ≠ X4 := by have := hR.lt; omega
 have EV4 := Lib.hid (And.intro eV eX)
 clear eV eX
 go_upto_region 2 with fail
 rw [← EV4.out.1, ← EV4.out.2]
 replace hA := hA.below bV4 hA.lt
 replace hM := hM.below bV4 hM.lt
 replace hR := hR.below bV4 hR.lt
 replace hB := hB.trans (bV4.mono hB.size)
 clear c9 c10 c11 c12 c13 c14 c15 c16 c17
 obtain ⟨c18, c19, c20⟩ := hA.q3
 obtain ⟨c21, c22, c23⟩ := hM.q3
 obtain ⟨c24, c25, c26⟩ := hR.q3
 obtain ⟨c27, c28, c29⟩ := hV.q3
 obtain ⟨p1, p2, p3⟩ := put3 hR (.bool false) (.slice none 0 0) (.slice none 0 0) (by simp [noU]) hB (by omega)
 have rc0 : World.cell? _ ⟨g + 1 + 1, 0, none⟩ = some (.bool false) := hR.cell 0
 have rf0 := hR.frozen 0
 have rc1 : World.cell? _ ⟨g + 1 + 1, 1, none⟩ = some (.slice none 0 0) := hR.cell 1
 have rf1 := hR.frozen 1
 have rc2 : World.cell? _ ⟨g + 1 + 1, 2, none⟩ = some (.slice none 0 0) := hR.cell 2
 have rf2 := hR.frozen 2
 have P := Lib.hid (And.intro trivial (And.intro p3 p1.cells3))
 clear p1 p2 p3
 go_wp2_with fail
 obtain ⟨P1, P2, P3, P4, P5⟩ := P.out
 exact bodyPost_ret (v := .tuple #[.agg #[.bool false, .slice none 0 0, .slice none 0 0], .int .i64 1]) (by simp [results, Tryz.results17, go_sem, P3, P4, P5]) rfl ⟨rfl, P2⟩
set_option maxRecDepth 100000 in
set_option maxHeartbeats 8000000 in
theorem pnext_b3 (beta f : Int) (va vm : Value) (a m : Rat) (w : World) (ha : IsQ w va a) (hm : IsQ w vm m) (hf0 : 0 ≤ f) (hf1 : f ≤ 40) (hb : In64 beta) (hb0 : ¬ beta < 0) (hb1 : ¬ (2 : Int) ^ f.toNat < beta) (na : decide (a.num < 0) = true) :
   Calls Tryz.prog 17 #[.int .i64 beta, .int .i64 f, va, vm] w fun e w' => e = .returned (.tuple #[.agg #[.bool false, .slice none 0 0, .slice none 0 0], .int .i64 1]) ∧ Below w.heap.size w w' := by
 obtain ⟨s1, A1, L1, C1, D1, M1, E1, rfl, q1⟩ := ha.opn
 obtain ⟨s2, A2, L2, C2, D2, M2, E2, rfl, q2⟩ := hm.opn
 obtain ⟨k, rfl⟩ : ∃ k : Nat, f = (k : Int) := ⟨f.toNat, by omega⟩
 have hk : k ≤ 40 := by omega
 have hN := fun w => pnum_any beta k w hk hb
 generalize mkRat beta (2 ^ k) = x at *
 rw [Int.toNat_natCast] at hb1
 have hP40 : 2 ^ k ≤ 2 ^ 40 := Nat.pow_le_pow_right (by omega) hk
 have hPi : ((2 ^ k : Nat) : Int) = (2 : Int) ^ k := by simp
 obtain ⟨P, hP⟩ : ∃ P, P = 2 ^ k := ⟨_, rfl⟩
 rw [← hP] at hP40 hPi
 have w1 : IntKind.i64.wrap ((2 : Int) ^ k) = (P : Int) := by rw [← hPi, IntKind.wrap_i64]; omega
 have w2 : IntKind.i64.wrap (1 * (2 : Int) ^ k) = (P : Int) := by rw [Int.one_mul]; exact w1
 rw [← hPi] at hb1
 clear hP hPi hP40
 have hd0 : decide (beta < 0) = false := decide_eq_false hb0
 have hd1 : decide ((P : Int) < beta) = false := decide_eq_false hb1
 obtain rfl : s1 = true := by rw [q1.parts.1]; exact na
 clear na
 clear hb hf0 hf1
 clear ha hm q1 q2
 obtain ⟨g, hg⟩ : ∃ g, g = w.heap.size := ⟨_, rfl⟩
 obtain ⟨Y0, eY0, hA, bY0⟩ := box1 w 32 #[.bool true, .slice A1 L1 C1, .slice D1 M1 E1]
 have zY0 : Y0.heap.size = g + 1 := by rw [eY0, World.size_alloc, ← hg]
 rw [← hg] at hA
 have hB := bY0
 obtain ⟨Y1, eY1, hM, bY1⟩ := box1 Y0 32 #[.bool s2, .slice A2 L2 C2, .slice D2 M2 E2]
 have zY1 : Y1.heap.size = g + 1 + 1 := by rw [eY1, World.size_alloc, zY0]
 rw [zY0] at hM
 replace hA := hA.below bY1 hA.lt
 replace hB := hB.trans (bY1.mono hB.size)
 obtain ⟨Y2, eY2, hR, bY2⟩ := box1 Y1 32 #[.bool false, .slice none 0 0, .slice none 0 0]
 have zY2 : Y2.heap.size = g + 1 + 1 + 1 := by rw [eY2, World.size_alloc, zY1]
 rw [zY1] at hR
 replace hA := hA.below bY2 hA.lt
 replace hM := hM.below bY2 hM.lt
 replace hB := hB.trans (bY2.mono hB.size)
 have hgw : w.heap.size ≤ g := by omega
 have EY := Lib.hid (And.intro hg (And.intro eY0 (And.intro eY1 eY2)))
 clear hg eY0 zY0 eY1 zY1 eY2 zY2
 obtain ⟨c0, c1, c2⟩ := hA.q3
 obtain ⟨c3, c4, c5⟩ := hM.q3
 obtain ⟨c6, c7, c8⟩ := hR.q3
 go_enter Tryz.func17, Tryz.ntmps17
 go_wp2_with fail
 rw [← EY.out.2.1, ← EY.out.2.2.1, ← EY.out.2.2.2, ← EY.out.1]
 refine (hN _).mono ?_
 rintro e w2 ⟨v3, rfl, q3, b2⟩
 replace hA := hA.below b2 hA.lt
 replace hM := hM.below b2 hM.lt
 replace hR := hR.below b2 hR.lt
 replace hB := hB.trans (b2.mono hB.size)
 clear c0 c1 c2 c3 c4 c5 c6 c7 c8
 obtain ⟨c9, c10, c11⟩ := hA.q3
 obtain ⟨c12, c13, c14⟩ := hM.q3
 obtain ⟨c15, c16, c17⟩ := hR.q3
 obtain ⟨s3, A3, L3, C3, D3, M3, E3, rfl, q3⟩ := q3.opn
 obtain ⟨V4, eV, hV, bV4⟩ := box1 w2 32 #[.bool s3, .slice A3 L3 C3, .slice D3 M3 E3]
 obtain ⟨X4, eX⟩ : ∃ X, X = w2.heap.size := ⟨_, rfl⟩
 rw [← eX] at hV
 have lX4 : w.heap.size ≤ X4 := by rw [eX]; exact hB.size
 have dX4_hA : g ≠ X4 := by have := hA.lt; omega
 have dX4_hM : g + 1 ≠ X4 := by have := hM.lt; omega
 have dX4_hR : g + 1 + 1 ≠ X4 := by have := hR.lt; omega
 have EV4 := Lib.hid (And.intro eV eX)
 clear eV eX
 go_upto_region 2 with fail
 rw [← EV4.out.1, ← EV4.out.2]
 replace hA := hA.below bV4 hA.lt
 replace hM := hM.below bV4 hM.lt
 replace hR := hR.below bV4 hR.lt
 replace hB := hB.trans (bV4.mono hB.size)
 clear c9 c10 c11 c12 c13 c14 c15 c16 c17
 obtain ⟨c18, c19, c20⟩ := hA.q3
 obtain ⟨c21, c22, c23⟩ := hM.q3
 obtain ⟨c24, c25, c26⟩ := hR.q3
 obtain ⟨c27, c28, c29⟩ := hV.q3
 obtain ⟨p1, p2, p3⟩ := put3 hR (.bool false) (.slice none 0 0) (.slice none 0 0) (by simp [noU]) hB (by omega)
 have rc0 : World.cell? _ ⟨g + 1 + 1, 0, none⟩ = some (.bool false) := hR.cell 0
 have rf0 := hR.frozen 0
 have rc1 : World.cell? _ ⟨g + 1 + 1, 1, none⟩ = some (.slice none 0 0) := hR.cell 1
 have rf1 := hR.frozen 1
 have rc2 : World.cell? _ ⟨g + 1 + 1, 2, none⟩ = some (.slice none 0 0) := hR.cell 2
 have rf2 := hR.frozen 2
 have P := Lib.hid (And.intro trivial (And.intro p3 p1.cells3))
 clear p1 p2 p3
 go_wp2_with fail
 obtain ⟨P1, P2, P3, P4, P5⟩ := P.out
 exact bodyPost_ret (v := .tuple #[.agg #[.bool false, .slice none 0 0, .slice none 0 0], .int .i64 1]) (by simp [results, Tryz.results17, go_sem, P3, P4, P5]) rfl ⟨rfl, P2⟩
set_option maxRecDepth 100000 in
set_option maxHeartbeats 8000000 in
theorem pnext_b4 (beta f : Int) (va vm : Value) (a m : Rat) (w : World) (ha : IsQ w va a) (hm : IsQ w vm m) (hf0 : 0 ≤ f) (hf1 : f ≤ 40) (hb : In64 beta) (hb0 : ¬ beta < 0) (hb1 : ¬ (2 : Int) ^ f.toNat < beta) (na : decide (a.num < 0) = false) (nm : decide (m.num < 0) = true) :
   Calls Tryz.prog 17 #[.int .i64 beta, .int .i64 f, va, vm] w fun e w' => e = .returned (.tuple #[.agg #[.bool false, .slice none 0 0, .slice none 0 0], .int .i64 1]) ∧ Below w.heap.size w w' := by
 obtain ⟨s1, A1, L1, C1, D1, M1, E1, rfl, q1⟩ := ha.opn
 obtain ⟨s2, A2, L2, C2, D2, M2, E2, rfl, q2⟩ := hm.opn
 obtain ⟨k, rfl⟩ : ∃ k : Nat, f = (k : Int) := ⟨f.toNat, by omega⟩
 have hk : k ≤ 40 := by omega
 have hN := fun w => pnum_any beta k w hk hb
 generalize mkRat beta (2 ^ k) = x at *
 rw [Int.toNat_natCast] at hb1
 have hP40 : 2 ^ k ≤ 2 ^ 40 := Nat.pow_le_pow_right (by omega) hk
 have hPi : ((2 ^ k : Nat) : Int) = (2 : Int) ^ k := by simp
 obtain ⟨P, hP⟩ : ∃ P, P = 2 ^ k := ⟨_, rfl⟩
 rw [← hP] at hP40 hPi
 have w1 : IntKind.i64.wrap ((2 : Int) ^ k) = (P : Int) := by rw [← hPi, IntKind.wrap_i64]; omega
 have w2 : IntKind.i64.wrap (1 * (2 : Int) ^ k) = (P : Int) := by rw [Int.one_mul]; exact w1
 rw [← hPi] at hb1
 clear hP hPi hP40
 have hd0 : decide (beta < 0) = false := decide_eq_false hb0
 have hd1 : decide ((P : Int) < beta) = false := decide_eq_false hb1
 obtain rfl : s1 = false := by rw [q1.parts.1]; exact na
 obtain rfl : s2 = true := by rw [q2.parts.1]; exact nm
 clear na nm
 clear hb hf0 hf1
 clear ha hm q1 q2
 obtain ⟨g, hg⟩ : ∃ g, g = w.heap.size := ⟨_, rfl⟩
 obtain ⟨Y0, eY0, hA, bY0⟩ := box1 w 32 #[.bool false, .slice A1 L1 C1, .slice D1 M1 E1]
 have zY0 : Y0.heap.size = g + 1 := by rw [eY0, World.size_alloc, ← hg]
 rw [← hg] at hA
 have hB := bY0
 obtain ⟨Y1, eY1, hM, bY1⟩ := box1 Y0 32 #[.bool true, .slice A2 L2 C2, .slice D2 M2 E2]
 have zY1 : Y1.heap.size = g + 1 + 1 := by rw [eY1, World.size_alloc, zY0]
 rw [zY0] at hM
 replace hA := hA.below bY1 hA.lt
 replace hB := hB.trans (bY1.mono hB.size)
 obtain ⟨Y2, eY2, hR, bY2⟩ := box1 Y1 32 #[.bool false, .slice none 0 0, .slice none 0 0]
 have zY2 : Y2.heap.size = g + 1 + 1 + 1 := by rw [eY2, World.size_alloc, zY1]
 rw [zY1] at hR
 replace hA := hA.below bY2 hA.lt
 replace hM := hM.below bY2 hM.lt
 replace hB := hB.trans (bY2.mono hB.size)
 have hgw : w.heap.size ≤ g := by omega
 have EY := Lib.hid (And.intro hg (And.intro eY0 (And.intro eY1 eY2)))
 clear hg eY0 zY0 eY1 zY1 eY2 zY2
 obtain ⟨c0, c1, c2⟩ := hA.q3
 obtain ⟨c3, c4, c5⟩ := hM.q3
 obtain ⟨c6, c7, c8⟩ := hR.q3
 go_enter Tryz.func17, Tryz.ntmps17
 go_wp2_with fail
 rw [← EY.out.2.1, ← EY.out.2.2.1, ← EY.out.2.2.2, ← EY.out.1]
 refine (hN _).mono ?_
 rintro e w2 ⟨v3, rfl, q3, b2⟩
 replace hA := hA.below b2 hA.lt
 replace hM := hM.below b2 hM.lt
 replace hR := hR.below b2 hR.lt
 replace hB := hB.trans (b2.mono hB.size)
 clear c0 c1 c2 c3 c4 c5 c6 c7 c8
 obtain ⟨c9, c10, c11⟩ := hA.q3
 obtain ⟨c12, c13, c14⟩ := hM.q3
 obtain ⟨c15, c16, c17⟩ := hR.q3
 obtain ⟨s3, A3, L3, C3, D3, M3, E3, rfl, q3⟩ := q3.opn
 obtain ⟨V4, eV, hV, bV4⟩ := box1 w2 32 #[.bool s3, .slice A3 L3 C3, .slice D3 M3 E3]
 obtain ⟨X4, eX⟩ : ∃ X, X = w2.heap.size := ⟨_, rfl⟩
 rw [← eX] at hV
 have lX4 : w.heap.size ≤ X4 := by rw [eX]; exact hB.size
 have dX4_hA : g ≠ X4 := by have := hA.lt; omega
 have dX4_hM : g + 1 ≠ X4 := by have := hM.lt; omega
 have dX4_hR : g + 1 + 1 ≠ X4 := by have := hR.lt; omega
 have EV4 := Lib.hid (And.intro eV eX)
 clear eV eX
 go_upto_region 2 with fail
 rw [← EV4.out.1, ← EV4.out.2]
 replace hA := hA.below bV4 hA.lt
 replace hM := hM.below bV4 hM.lt
 replace hR := hR.below bV4 hR.lt
 replace hB := hB.trans (bV4.mono hB.size)
 clear c9 c10 c11 c12 c13 c14 c15 c16 c17
 obtain ⟨c18, c19, c20⟩ := hA.q3
 obtain ⟨c21, c22, c23⟩ := hM.q3
 obtain ⟨c24, c25, c26⟩ := hR.q3
 obtain ⟨c27, c28, c29⟩ := hV.q3
 obtain ⟨p1, p2, p3⟩ := put3 hR (.bool false) (.slice none 0 0) (.slice none 0 0) (by simp [noU]) hB (by omega)
 have rc0 : World.cell? _ ⟨g + 1 + 1, 0, none⟩ = some (.bool false) := hR.cell 0
 have rf0 := hR.frozen 0
 have rc1 : World.cell? _ ⟨g + 1 + 1, 1, none⟩ = some (.slice none 0 0) := hR.cell 1
 have rf1 := hR.frozen 1
 have rc2 : World.cell? _ ⟨g + 1 + 1, 2, none⟩ = some (.slice none 0 0) := hR.cell 2
 have rf2 := hR.frozen 2
 have P := Lib.hid (And.intro trivial (And.intro p3 p1.cells3))
 clear p1 p2 p3
 go_wp2_with fail
 obtain ⟨P1, P2, P3, P4, P5⟩ := P.out
 exact bodyPost_ret (v := .tuple #[.agg #[.bool false, .slice none 0 0, .slice none 0 0], .int .i64 1]) (by simp [results, Tryz.results17, go_sem, P3, P4, P5]) rfl ⟨rfl, P2⟩
def nextBad (beta f : Int) (a m : Rat) : Bool := decide (f < 0 ∨ 40 < f) || decide (beta < 0) || decide ((2 : Int) ^ f.toNat < beta) || decide (a.num < 0) || decide (m.num < 0)
theorem pnext_bad (beta f : Int) (va vm : Value) (a m : Rat) (w : World) (ha : IsQ w va a) (hm : IsQ w vm m) (hb : In64 beta) (h : nextBad beta f a m = true) :
   Calls Tryz.prog 17 #[.int .i64 beta, .int .i64 f, va, vm] w fun e w' => e = .returned (.tuple #[.agg #[.bool false, .slice none 0 0, .slice none 0 0], .int .i64 1]) ∧ Below w.heap.size w w' := by
 unfold nextBad at h
 by_cases h0 : f < 0 ∨ 40 < f
 · exact pnext_b0 beta f va vm a m w ha hm h0
 by_cases h1 : beta < 0
 · exact pnext_b1 beta f va vm a m w ha hm (by omega) (by omega) hb h1
 by_cases h2 : (2 : Int) ^ f.toNat < beta
 · exact pnext_b2 beta f va vm a m w ha hm (by omega) (by omega) hb h1 h2
 by_cases h3 : a.num < 0
 · exact pnext_b3 beta f va vm a m w ha hm (by omega) (by omega) hb h1 h2 (decide_eq_true h3)
 by_cases h4 : m.num < 0
 · exact pnext_b4 beta f va vm a m w ha hm (by omega) (by omega) hb h1 h2 (decide_eq_false h3) (decide_eq_true h4)
 · rw [decide_eq_false h0, decide_eq_false h1, decide_eq_false h2, decide_eq_false h3, decide_eq_false h4] at h
   exact absurd h (by simp)
set_option maxRecDepth 100000 in
set_option maxHeartbeats 8000000 in
theorem paround_b0 (n f : Int) (va : Value) (a : Rat) (w : World) (ha : IsQ w va a) (hf : f < 0 ∨ 40 < f) :
   Calls Tryz.prog 19 #[.int .i64 n, .int .i64 f, va] w fun e w' => e = .returned (.tuple #[.agg #[.bool false, .slice none 0 0, .slice none 0 0, .bool false, .slice none 0 0, .slice none 0 0], .int .i64 1]) ∧ Below w.heap.size w w' := by
 obtain ⟨s1, A1, L1, C1, D1, M1, E1, rfl, q1⟩ := ha.opn
 have hN := fun w => pnum_bad n f w hf
 clear hf
 clear ha q1
 obtain ⟨g, hg⟩ : ∃ g, g = w.heap.size := ⟨_, rfl⟩
 obtain ⟨Y0, eY0, hA, bY0⟩ := box1 w 32 #[.bool s1, .slice A1 L1 C1, .slice D1 M1 E1]
 have zY0 : Y0.heap.size = g + 1 := by rw [eY0, World.size_alloc, ← hg]
 rw [← hg] at hA
 have hB := bY0
 obtain ⟨Y1, eY1, hR, bY1⟩ := box1 Y0 46 #[.bool false, .slice none 0 0, .slice none 0 0, .bool false, .slice none 0 0, .slice none 0 0]
 have zY1 : Y1.heap.size = g + 1 + 1 := by rw [eY1, World.size_alloc, zY0]
 rw [zY0] at hR
 replace hA := hA.below bY1 hA.lt
 replace hB := hB.trans (bY1.mono hB.size)
 have hgw : w.heap.size ≤ g := by omega
 have EY := Lib.hid (And.intro hg (And.intro eY0 eY1))
 clear hg eY0 zY0 eY1 zY1
 obtain ⟨c0, c1, c2⟩ := hA.q3
 obtain ⟨c3, c4, c5, c6, c7, c8⟩ := hR.q6
 go_enter Tryz.func19, Tryz.ntmps19
 go_wp2_with fail
 rw [← EY.out.2.1, ← EY.out.2.2, ← EY.out.1]
 refine (hN _).mono ?_
 rintro e w2 ⟨rfl, b2⟩
 replace hA := hA.below b2 hA.lt
 replace hR := hR.below b2 hR.lt
 replace hB := hB.trans (b2.mono hB.size)
 clear c0 c1 c2 c3 c4 c5 c6 c7 c8
 obtain ⟨c9, c10, c11⟩ := hA.q3
 obtain ⟨c12, c13, c14, c15, c16, c17⟩ := hR.q6
 obtain ⟨V4, eV, hV, bV4⟩ := box1 w2 32 #[.bool false, .slice none 0 0, .slice none 0 0]
 obtain ⟨X4, eX⟩ : ∃ X, X = w2.heap.size := ⟨_, rfl⟩
 rw [← eX] at hV
 have lX4 : w.heap.size ≤ X4 := by rw [eX]; exact hB.size
 have dX4_hA : g ≠ X4 := by have := hA.lt; omega
 have dX4_hR : g + 1 ≠ X4 := by have := hR.lt; omega
 have EV4 := Lib.hid (And.intro eV eX)
 clear eV eX
 go_upto_region 2 with fail
 rw [← EV4.out.1, ← EV4.out.2]
 replace hA := hA.below bV4 hA.lt
 replace hR := hR.below bV4 hR.lt
 replace hB := hB.trans (bV4.mono hB.size)
 clear c9 c10 c11 c12 c13 c14 c15 c16 c17
 obtain ⟨c18, c19, c20⟩ := hA.q3
 obtain ⟨c21, c22, c23, c24, c25, c26⟩ := hR.q6
 obtain ⟨c27, c28, c29⟩ := hV.q3
 obtain ⟨p1, p2, p3⟩ := put6 hR (.bool false) (.slice none 0 0) (.slice none 0 0) (.bool false) (.slice none 0 0) (.slice none 0 0) (by simp [noU]) hB (by omega)
 have rc0 : World.cell? _ ⟨g + 1, 0, none⟩ = some (.bool false) := hR.cell 0
 have rf0 := hR.frozen 0
 have rc1 : World.cell? _ ⟨g + 1, 1, none⟩ = some (.slice none 0 0) := hR.cell 1
 have rf1 := hR.frozen 1
 have rc2 : World.cell? _ ⟨g + 1, 2, none⟩ = some (.slice none 0 0) := hR.cell 2
 have rf2 := hR.frozen 2
 have rc3 : World.cell? _ ⟨g + 1, 3, none⟩ = some (.bool false) := hR.cell 3
 have rf3 := hR.frozen 3
 have rc4 : World.cell? _ ⟨g + 1, 4, none⟩ = some (.slice none 0 0) := hR.cell 4
 have rf4 := hR.frozen 4
 have rc5 : World.cell? _ ⟨g + 1, 5, none⟩ = some (.slice none 0 0) := hR.cell 5
 have rf5 := hR.frozen 5
 have P := Lib.hid (And.intro trivial (And.intro p3 p1.cells6))
 clear p1 p2 p3
 go_wp2_with fail
 obtain ⟨P1, P2, P3, P4, P5, P6, P7, P8⟩ := P.out
 exact bodyPost_ret (v := .tuple #[.agg #[.bool false, .slice none 0 0, .slice none 0 0, .bool false, .slice none 0 0, .slice none 0 0], .int .i64 1]) (by simp [results, Tryz.results19, go_sem, P3, P4, P5, P6, P7, P8]) rfl ⟨rfl, P2⟩
set_option maxRecDepth 100000 in
set_option maxHeartbeats 8000000 in
theorem paround_b1 (n f : Int) (va : Value) (a : Rat) (w : World) (ha : IsQ w va a) (hf0 : 0 ≤ f) (hf1 : f ≤ 40) (hb : In64 n) (na : decide (a.num < 0) = true) :
   Calls Tryz.prog 19 #[.int .i64 n, .int .i64 f, va] w fun e w' => e = .returned (.tuple #[.agg #[.bool false, .slice none 0 0, .slice none 0 0, .bool false, .slice none 0 0, .slice none 0 0], .int .i64 1]) ∧ Below w.heap.size w w' := by
 obtain ⟨s1, A1, L1, C1, D1, M1, E1, rfl, q1⟩ := ha.opn
 obtain ⟨k, rfl⟩ : ∃ k : Nat, f = (k : Int) := ⟨f.toNat, by omega⟩
 have hk : k ≤ 40 := by omega
 have hN := fun w => pnum_any n k w hk hb
 generalize mkRat n (2 ^ k) = x at *
 obtain rfl : s1 = true := by rw [q1.parts.1]; exact na
 clear na hb hf0 hf1
 clear ha q1
 obtain ⟨g, hg⟩ : ∃ g, g = w.heap.size := ⟨_, rfl⟩
 obtain ⟨Y0, eY0, hA, bY0⟩ := box1 w 32 #[.bool true, .slice A1 L1 C1, .slice D1 M1 E1]
 have zY0 : Y0.heap.size = g + 1 := by rw [eY0, World.size_alloc, ← hg]
 rw [← hg] at hA
 have hB := bY0
 obtain ⟨Y1, eY1, hR, bY1⟩ := box1 Y0 46 #[.bool false, .slice none 0 0, .slice none 0 0, .bool false, .slice none 0 0, .slice none 0 0]
 have zY1 : Y1.heap.size = g + 1 + 1 := by rw [eY1, World.size_alloc, zY0]
 rw [zY0] at hR
 replace hA := hA.below bY1 hA.lt
 replace hB := hB.trans (bY1.mono hB.size)
 have hgw : w.heap.size ≤ g := by omega
 have EY := Lib.hid (And.intro hg (And.intro eY0 eY1))
 clear hg eY0 zY0 eY1 zY1
 obtain ⟨c0, c1, c2⟩ := hA.q3
 obtain ⟨c3, c4, c5, c6, c7, c8⟩ := hR.q6
 go_enter Tryz.func19, Tryz.ntmps19
 go_wp2_with fail
 rw [← EY.out.2.1, ← EY.out.2.2, ← EY.out.1]
 refine (hN _).mono ?_
 rintro e w2 ⟨v3, rfl, q3, b2⟩
 replace hA := hA.below b2 hA.lt
 replace hR := hR.below b2 hR.lt
 replace hB := hB.trans (b2.mono hB.size)
 clear c0 c1 c2 c3 c4 c5 c6 c7 c8
 obtain ⟨c9, c10, c11⟩ := hA.q3
 obtain ⟨c12, c13, c14, c15, c16, c17⟩ := hR.q6
 obtain ⟨s3, A3, L3, C3, D3, M3, E3, rfl, q3⟩ := q3.opn
 obtain ⟨V4, eV, hV, bV4⟩ := box1 w2 32 #[.bool s3, .slice A3 L3 C3, .slice D3 M3 E3]
 obtain ⟨X4, eX⟩ : ∃ X, X = w2.heap.size := ⟨_, rfl⟩
 rw [← eX] at hV
 have lX4 : w.heap.size ≤ X4 := by rw [eX]; exact hB.size
 have dX4_hA : g ≠ X4 := by have := hA.lt; omega
 have dX4_hR : g + 1 ≠ X4 := by have := hR.lt; omega
 have EV4 := Lib.hid (And.intro eV eX)
 clear eV eX
 go_upto_region 2 with fail
 rw [← EV4.out.1, ← EV4.out.2]
 replace hA := hA.below bV4 hA.lt
 replace hR := hR.below bV4 hR.lt
 replace hB := hB.trans (bV4.mono hB.size)
 clear c9 c10 c11 c12 c13 c14 c15 c16 c17
 obtain ⟨c18, c19, c20⟩ := hA.q3
 obtain ⟨c21, c22, c23, c24, c25, c26⟩ := hR.q6
 obtain ⟨c27, c28, c29⟩ := hV.q3
 obtain ⟨p1, p2, p3⟩ := put6 hR (.bool false) (.slice none 0 0) (.slice none 0 0) (.bool false) (.slice none 0 0) (.slice none 0 0) (by simp [noU]) hB (by omega)
 have rc0 : World.cell? _ ⟨g + 1, 0, none⟩ = some (.bool false) := hR.cell 0
 have rf0 := hR.frozen 0
 have rc1 : World.cell? _ ⟨g + 1, 1, none⟩ = some (.slice none 0 0) := hR.cell 1
 have rf1 := hR.frozen 1
 have rc2 : World.cell? _ ⟨g + 1, 2, none⟩ = some (.slice none 0 0) := hR.cell 2
 have rf2 := hR.frozen 2
 have rc3 : World.cell? _ ⟨g + 1, 3, none⟩ = some (.bool false) := hR.cell 3
 have rf3 := hR.frozen 3
 have rc4 : World.cell? _ ⟨g + 1, 4, none⟩ = some (.slice none 0 0) := hR.cell 4
 have rf4 := hR.frozen 4
 have rc5 : World.cell? _ ⟨g + 1, 5, none⟩ = some (.slice none 0 0) := hR.cell 5
 have rf5 := hR.frozen 5
 have P := Lib.hid (And.intro trivial (And.intro p3 p1.cells6))
 clear p1 p2 p3
 go_wp2_with fail
 obtain ⟨P1, P2, P3, P4, P5, P6, P7, P8⟩ := P.out
 exact bodyPost_ret (v := .tuple #[.agg #[.bool false, .slice none 0 0, .slice none 0 0, .bool false, .slice none 0 0, .slice none 0 0], .int .i64 1]) (by simp [results, Tryz.results19, go_sem, P3, P4, P5, P6, P7, P8]) rfl ⟨rfl, P2⟩
end Go.Proofs.YtdnjdglekifhpaaGreat
namespace Go.Proofs.YtdnjdglekifhpaaGreat
open Go.RowKit
attribute [local go_sem ↓] Go.wp_at_zero Go.wp_at_succ
set_option maxHeartbeats 1000000 in
theorem rzright_any (b : Bool) (nv : Value) (l : List Nat) (w : World) (h : IsL w nv l) :
   Calls Tryz.prog 114 #[.agg #[.bool b, nv]] w fun e w' => e = .returned (.bool (rightZ b l)) ∧ Below w.heap.size w w' := by
 unfold rightZ
 have hS := fun w hn => rright_any nv l w hn
 obtain ⟨W0, hW, hR, hB⟩ := box1 w 30 #[.bool b, nv]
 obtain ⟨g, hg⟩ : ∃ g, g = w.heap.size := ⟨_, rfl⟩
 have hW' := Lib.hid (And.intro hW hg)
 rw [← hg] at hR
 clear hW hg
 have hn := h.below hB
 have HB := Lib.hid hB
 obtain ⟨A, c, rfl, _⟩ := id h
 obtain ⟨q0, q1⟩ := hR.cells2
 generalize decide (l = [] ∨ lat l (l.length - 1) ≠ 0) = r at *
 obtain ⟨d, hd⟩ : ∃ d, d = decide (l.length = 0) := ⟨_, rfl⟩
 rw [← hd]
 have hl0 : decide ((0 : Int) < (l.length : Int)) = !d := by
   rw [hd]
   rcases Nat.eq_zero_or_pos l.length with h9 | h9
   · rw [decide_eq_false (by omega), decide_eq_true h9]; rfl
   · rw [decide_eq_true (by omega), decide_eq_false (by omega)]; rfl
 have hl1 : decide (0 < l.length) = !d := by
   rw [hd]
   rcases Nat.eq_zero_or_pos l.length with h9 | h9
   · rw [decide_eq_false (by omega), decide_eq_true h9]; rfl
   · rw [decide_eq_true h9, decide_eq_false (by omega)]; rfl
 clear h hd
 cases r <;> cases b <;> cases d
 all_goals
   go_enter Tryz.func114, Tryz.ntmps114
   go_wp2_with fail
   rw [← hW'.out.1, ← hW'.out.2]
   refine (hS _ hn).mono ?_
   rintro e w1 ⟨rfl, rfl⟩
   go_wp2
   go_ret
   exact ⟨rfl, HB.out⟩
end Go.Proofs.YtdnjdglekifhpaaGreat
namespace Go.Proofs.YtdnjdglekifhpaaGreat
open Go.RowKit
attribute [local go_sem ↓] Go.wp_at_zero Go.wp_at_succ
theorem isZ_nil (w : World) : IsZ w (.agg #[.bool false, .slice none 0 0]) 0 := ⟨_, rfl, IsN.zero _⟩
theorem rqsame_zero (w : World) :
   Calls Tryz.prog 21 #[.agg #[.bool false, .slice none 0 0, .slice none 0 0], .agg #[.bool false, .slice none 0 0, .slice none 0 0]] w fun e w' => e = .returned (.bool true) ∧ Below w.heap.size w w' :=
 rqsame_raw _ _ _ _ _ _ 0 0 0 0 w (isZ_nil w) (isZ_nil w) (IsN.zero w) (IsN.zero w)
theorem rssame_zero (w : World) :
   Calls Tryz.prog 22 #[.agg #[.bool false, .slice none 0 0, .slice none 0 0, .bool false, .slice none 0 0, .slice none 0 0], .agg #[.bool false, .slice none 0 0, .slice none 0 0, .bool false, .slice none 0 0, .slice none 0 0]] w fun e w' => e = .returned (.bool true) ∧ Below w.heap.size w w' :=
 rssame_t _ _ _ _ _ _ _ _ _ _ _ _ _ _ _ _ _ _ _ _ _ _ _ _ _ _ _ _ true true w rfl (fun W _ => rqsame_zero W) (fun W _ => rqsame_zero W)
end Go.Proofs.YtdnjdglekifhpaaGreat
namespace Go.Proofs.YtdnjdglekifhpaaGreat
open Go.RowKit
attribute [local go_sem ↓] Go.wp_at_zero Go.wp_at_succ
set_option maxRecDepth 100000 in
set_option maxHeartbeats 8000000 in
theorem rhalf_any (n : Int) (w : World) (hn : In64 n) :
   Calls Tryz.prog 105 #[.int .i64 n] w fun e w' => ∃ v', e = .returned v' ∧ IsQ w' v' (mkRat n 2) ∧ Below w.heap.size w w' := by
 have hF := fun w => rfrac5_any n 2 w hn ⟨by omega, by omega⟩ (by omega)
 rw [show (2 : Int).natAbs = 2 from rfl] at hF
 generalize mkRat n 2 = r at *
 clear hn
 obtain ⟨g, hg⟩ : ∃ g, g = w.heap.size := ⟨_, rfl⟩
 obtain ⟨Y0, eY0, hR, bY0⟩ := box1 w 32 #[.bool false, .slice none 0 0, .slice none 0 0]
 have zY0 : Y0.heap.size = g + 1 := by rw [eY0, World.size_alloc, ← hg]
 rw [← hg] at hR
 have hB := bY0
 have hgw : w.heap.size ≤ g := by omega
 have EY := Lib.hid (And.intro hg eY0)
 clear hg eY0 zY0
 obtain ⟨c0, c1, c2⟩ := hR.q3
 go_enter Tryz.func105, Tryz.ntmps105
 go_wp2_with fail
 rw [← EY.out.2, ← EY.out.1]
 refine (hF _).mono ?_
 rintro e w2 ⟨v3, rfl, q3, b2⟩
 replace hR := hR.below b2 hR.lt
 replace hB := hB.trans (b2.mono hB.size)
 clear c0 c1 c2
 obtain ⟨c3, c4, c5⟩ := hR.q3
 obtain ⟨s3, A3, L3, C3, D3, M3, E3, rfl, q3⟩ := q3.opn
 obtain ⟨p1, p2, p3⟩ := put3 hR (.bool s3) (.slice A3 L3 C3) (.slice D3 M3 E3) (by simp [noU]) hB (by omega)
 have rc0 : World.cell? _ ⟨g, 0, none⟩ = some (.bool false) := hR.cell 0
 have rf0 := hR.frozen 0
 have rc1 : World.cell? _ ⟨g, 1, none⟩ = some (.slice none 0 0) := hR.cell 1
 have rf1 := hR.frozen 1
 have rc2 : World.cell? _ ⟨g, 2, none⟩ = some (.slice none 0 0) := hR.cell 2
 have rf2 := hR.frozen 2
 have P := Lib.hid (And.intro (q3.kept p2) (And.intro p3 p1.cells3))
 clear p1 p2 p3
 go_wp2_with fail
 obtain ⟨P1, P2, P3, P4, P5⟩ := P.out
 exact bodyPost_ret (v := .agg #[.bool s3, .slice A3 L3 C3, .slice D3 M3 E3]) (by simp [results, Tryz.results105, go_sem, P3, P4, P5]) rfl ⟨_, rfl, P1, P2⟩
set_option maxRecDepth 100000 in
set_option maxHeartbeats 8000000 in
theorem rrat_bad (n f : Int) (w : World) (hf : f < 0 ∨ 40 < f) :
   Calls Tryz.prog 24 #[.int .i64 n, .int .i64 f] w fun e w' => e = .returned (.tuple #[.agg #[.bool false, .slice none 0 0, .slice none 0 0], .int .i64 1]) ∧ Below w.heap.size w w' := by
 have hF := fun w => rfrac_any f w
 rw [decide_eq_false (by omega)] at hF
 clear hf
 obtain ⟨g, hg⟩ : ∃ g, g = w.heap.size := ⟨_, rfl⟩
 obtain ⟨Y0, eY0, hR, bY0⟩ := box1 w 32 #[.bool false, .slice none 0 0, .slice none 0 0]
 have zY0 : Y0.heap.size = g + 1 := by rw [eY0, World.size_alloc, ← hg]
 rw [← hg] at hR
 have hB := bY0
 have hgw : w.heap.size ≤ g := by omega
 have EY := Lib.hid (And.intro hg eY0)
 clear hg eY0 zY0
 obtain ⟨c0, c1, c2⟩ := hR.q3
 go_enter Tryz.func24, Tryz.ntmps24
 go_wp2_with fail
 rw [← EY.out.2, ← EY.out.1]
 refine (hF _).mono ?_
 rintro e w2 ⟨rfl, rfl⟩
 obtain ⟨p1, p2, p3⟩ := put3 hR (.bool false) (.slice none 0 0) (.slice none 0 0) (by simp [noU]) hB (by omega)
 have rc0 : World.cell? _ ⟨g, 0, none⟩ = some (.bool false) := hR.cell 0
 have rf0 := hR.frozen 0
 have rc1 : World.cell? _ ⟨g, 1, none⟩ = some (.slice none 0 0) := hR.cell 1
 have rf1 := hR.frozen 1
 have rc2 : World.cell? _ ⟨g, 2, none⟩ = some (.slice none 0 0) := hR.cell 2
 have rf2 := hR.frozen 2
 have P := Lib.hid (And.intro trivial (And.intro p3 p1.cells3))
 clear p1 p2 p3
 go_wp2_with fail
 obtain ⟨P1, P2, P3, P4, P5⟩ := P.out
 exact bodyPost_ret (v := .tuple #[.agg #[.bool false, .slice none 0 0, .slice none 0 0], .int .i64 1]) (by simp [results, Tryz.results24, go_sem, P3, P4, P5]) rfl ⟨rfl, P2⟩
set_option maxRecDepth 100000 in
set_option maxHeartbeats 8000000 in
theorem rup_any (v : Value) (a : Rat) (w : World) (h : IsQ w v a) (sa : BQ a 9000) :
   Calls Tryz.prog 66 #[v] w fun e w' => ∃ v', e = .returned v' ∧ IsQ w' v' (mkRat (cel a 20) (2 ^ 20)) ∧ Below w.heap.size w w' := by
 have hC := fun w h => ceil_any v a 20 w h (by omega) (sa.more (by omega))
 have s3 := sz_cel (k := 20) sa
 have hBk := fun u w hu => back_any u (cel a 20) 20 w hu (by omega) (s3.more (by omega))
 generalize mkRat (cel a 20) (2 ^ 20) = r at *
 generalize cel a 20 = z at *
 obtain ⟨s1, A1, L1, C1, D1, M1, E1, rfl, q1⟩ := h.opn
 clear h sa s3
 obtain ⟨g, hg⟩ : ∃ g, g = w.heap.size := ⟨_, rfl⟩
 obtain ⟨Y0, eY0, hA, bY0⟩ := box1 w 32 #[.bool s1, .slice A1 L1 C1, .slice D1 M1 E1]
 have zY0 : Y0.heap.size = g + 1 := by rw [eY0, World.size_alloc, ← hg]
 rw [← hg] at hA
 replace q1 := q1.below bY0
 have hB := bY0
 obtain ⟨Y1, eY1, hR, bY1⟩ := box1 Y0 32 #[.bool false, .slice none 0 0, .slice none 0 0]
 have zY1 : Y1.heap.size = g + 1 + 1 := by rw [eY1, World.size_alloc, zY0]
 rw [zY0] at hR
 replace hA := hA.below bY1 hA.lt
 replace q1 := q1.below bY1
 replace hB := hB.trans (bY1.mono hB.size)
 have hgw : w.heap.size ≤ g := by omega
 have EY := Lib.hid (And.intro hg (And.intro eY0 eY1))
 clear hg eY0 zY0 eY1 zY1
 obtain ⟨c0, c1, c2⟩ := hA.q3
 obtain ⟨c3, c4, c5⟩ := hR.q3
 go_enter Tryz.func66, Tryz.ntmps66
 go_wp2_with fail
 rw [← EY.out.2.1, ← EY.out.2.2, ← EY.out.1]
 refine (hC _ q1).mono ?_
 rintro e w2 ⟨v2, rfl, z2, b2⟩
 replace q1 := q1.below b2
 replace hA := hA.below b2 hA.lt
 replace hR := hR.below b2 hR.lt
 replace hB := hB.trans (b2.mono hB.size)
 clear c0 c1 c2 c3 c4 c5
 obtain ⟨c6, c7, c8⟩ := hA.q3
 obtain ⟨c9, c10, c11⟩ := hR.q3
 obtain ⟨s2, A2, L2, C2, rfl, z2⟩ := z2.opn
 obtain ⟨V4, eV, hU, bV4⟩ := box1 w2 30 #[.bool s2, .slice A2 L2 C2]
 obtain ⟨X4, eX⟩ : ∃ X, X = w2.heap.size := ⟨_, rfl⟩
 rw [← eX] at hU
 have lX4 : w.heap.size ≤ X4 := by rw [eX]; exact hB.size
 have dX4_hA : g ≠ X4 := by have := hA.lt; omega
 have dX4_hR : g + 1 ≠ X4 := by have := hR.lt; omega
 have EV4 := Lib.hid (And.intro eV eX)
 clear eV eX
 go_upto_region 2 with fail
 rw [← EV4.out.1, ← EV4.out.2]
 replace q1 := q1.below bV4
 replace hA := hA.below bV4 hA.lt
 replace hR := hR.below bV4 hR.lt
 replace z2 := z2.below bV4
 replace hB := hB.trans (bV4.mono hB.size)
 clear c6 c7 c8 c9 c10 c11
 obtain ⟨c12, c13, c14⟩ := hA.q3
 obtain ⟨c15, c16, c17⟩ := hR.q3
 obtain ⟨c18, c19⟩ := hU.q2
 go_wp2_with fail
 refine (hBk _ _ z2).mono ?_
 rintro e w6 ⟨v3, rfl, q3, b6⟩
 replace q1 := q1.below b6
 replace hA := hA.below b6 hA.lt
 replace hR := hR.below b6 hR.lt
 replace z2 := z2.below b6
 replace hU := hU.below b6 hU.lt
 replace hB := hB.trans (b6.mono hB.size)
 clear c12 c13 c14 c15 c16 c17 c18 c19
 obtain ⟨c20, c21, c22⟩ := hA.q3
 obtain ⟨c23, c24, c25⟩ := hR.q3
 obtain ⟨c26, c27⟩ := hU.q2
 obtain ⟨s3, A3, L3, C3, D3, M3, E3, rfl, q3⟩ := q3.opn
 obtain ⟨V8, eV, hV, bV8⟩ := box1 w6 32 #[.bool s3, .slice A3 L3 C3, .slice D3 M3 E3]
 obtain ⟨X8, eX⟩ : ∃ X, X = w6.heap.size := ⟨_, rfl⟩
 rw [← eX] at hV
 have lX8 : w.heap.size ≤ X8 := by rw [eX]; exact hB.size
 have dX8_hA : g ≠ X8 := by have := hA.lt; omega
 have dX8_hR : g + 1 ≠ X8 := by have := hR.lt; omega
 have dX8_hU : X4 ≠ X8 := by have := hU.lt; omega
 have EV8 := Lib.hid (And.intro eV eX)
 clear eV eX
 go_upto_region 3 with fail
 rw [← EV8.out.1, ← EV8.out.2]
 replace q1 := q1.below bV8
 replace hA := hA.below bV8 hA.lt
 replace hR := hR.below bV8 hR.lt
 replace z2 := z2.below bV8
 replace hU := hU.below bV8 hU.lt
 replace q3 := q3.below bV8
 replace hB := hB.trans (bV8.mono hB.size)
 clear c20 c21 c22 c23 c24 c25 c26 c27
 obtain ⟨c28, c29, c30⟩ := hA.q3
 obtain ⟨c31, c32, c33⟩ := hR.q3
 obtain ⟨c34, c35⟩ := hU.q2
 obtain ⟨c36, c37, c38⟩ := hV.q3
 obtain ⟨p1, p2, p3⟩ := put3 hR (.bool s3) (.slice A3 L3 C3) (.slice D3 M3 E3) (by simp [noU]) hB (by omega)
 have rc0 : World.cell? _ ⟨g + 1, 0, none⟩ = some (.bool false) := hR.cell 0
 have rf0 := hR.frozen 0
 have rc1 : World.cell? _ ⟨g + 1, 1, none⟩ = some (.slice none 0 0) := hR.cell 1
 have rf1 := hR.frozen 1
 have rc2 : World.cell? _ ⟨g + 1, 2, none⟩ = some (.slice none 0 0) := hR.cell 2
 have rf2 := hR.frozen 2
 have P := Lib.hid (And.intro (q3.kept p2) (And.intro p3 p1.cells3))
 clear p1 p2 p3
 go_wp2_with fail
 obtain ⟨P1, P2, P3, P4, P5⟩ := P.out
 exact bodyPost_ret (v := .agg #[.bool s3, .slice A3 L3 C3, .slice D3 M3 E3]) (by simp [results, Tryz.results66, go_sem, P3, P4, P5]) rfl ⟨_, rfl, P1, P2⟩
theorem cmp_one (beta : Int) (k : Nat) : cmpQ (mkRat beta (2 ^ k)) 1 = cmpI beta ((2 : Int) ^ k) := by
 have h1 : (1 : Rat) = mkRat ((2 ^ k : Nat) : Int) (2 ^ k) := by
   have hp : (2 ^ k : Nat) ≠ 0 := Nat.ne_of_gt (Nat.pow_pos (by omega))
   have := Rat.mkRat_mul_right (n := 1) (d := 1) (a := 2 ^ k) hp
   rw [Int.one_mul, Nat.one_mul] at this
   rw [this]; rfl
 rw [h1, cmpQ_mk _ _ _ (Nat.pow_pos (by omega))]
 simp
theorem sz_man {n : Int} {k : Nat} (hn : In64 n) (hk : k ≤ 40) : BQ (mkRat n (2 ^ k)) 41 := BQ.mk ((Sz.u64 (by have := hn.1; have := hn.2; unfold W64; omega)).more (by omega)) ((Sz.two_pow k).more (by omega)) (by omega)
set_option maxRecDepth 100000 in
set_option maxHeartbeats 8000000 in
theorem rnext_any (beta : Int) (k : Nat) (va vm : Value) (a m : Rat) (w : World) (hk : k ≤ 40) (hb : In64 beta) (hb0 : 0 ≤ beta) (hb1 : ¬ (2 : Int) ^ k < beta) (ha : IsQ w va a) (hm : IsQ w vm m) (sa : BQ a 2000) (sm : BQ m 2000) (na : decide (a.num < 0) = false) (nm : decide (m.num < 0) = false) :
   Calls Tryz.prog 18 #[.int .i64 beta, .int .i64 k, va, vm] w fun e w' => ∃ v', e = .returned (.tuple #[v', .int .i64 0]) ∧ IsQ w' v' (nextQ beta k a m) ∧ Below w.heap.size w w' := by
 have hN := fun w => rrat_any beta k w hk hb
 have sx := sz_man hb hk
 have hO := fun w => rqof_any 1 (by omega) (by omega) w
 have hC := fun u v w hu hv => rqcmp_any u v (mkRat beta (2 ^ k)) ((1 : Int) : Rat) w hu hv (sx.more (by omega)) ((BQ.int (by unfold W64; omega)).more (by omega))
 have e1 : (((1 : Int) : Rat)) = 1 := rfl
 rw [e1] at hO hC
 have hle : cmpI beta ((2 : Int) ^ k) ≤ 0 := by unfold cmpI; (repeat' split) <;> omega
 rw [cmp_one] at hC
 have hMu := fun u v w hu hv => rqmul_any u v (mkRat beta (2 ^ k)) a w hu hv (sx.more (by omega)) (sa.more (by omega))
 have s1 := sx.mul sa
 have hAd := fun u v w hu hv => rqadd_any u v (mkRat beta (2 ^ k) * a) m w hu hv (s1.more (by omega)) (sm.more (by omega))
 have s2 := s1.add sm
 have hUp := fun u w hu => rup_any u (mkRat beta (2 ^ k) * a + m) w hu (s2.more (by omega))
 rw [show mkRat (cel (mkRat beta (2 ^ k) * a + m) 20) (2 ^ 20) = nextQ beta k a m from rfl] at hUp
 generalize nextQ beta k a m = r at *
 generalize mkRat beta (2 ^ k) * a + m = r2 at *
 generalize mkRat beta (2 ^ k) * a = r1 at *
 generalize mkRat beta (2 ^ k) = x at *
 generalize cmpI beta ((2 : Int) ^ k) = cc at *
 have hcc : decide (0 < cc) = false := decide_eq_false (by omega)
 have hd0 : decide (beta < 0) = false := decide_eq_false (by omega)
 obtain ⟨s1, A1, L1, C1, D1, M1, E1, rfl, q1⟩ := ha.opn
 obtain ⟨s2, A2, L2, C2, D2, M2, E2, rfl, q2⟩ := hm.opn
 obtain rfl : s1 = false := by rw [q1.parts.1]; exact na
 obtain rfl : s2 = false := by rw [q2.parts.1]; exact nm
 clear sx sa sm na nm ha hm hb hb0 hb1 e1 hle
 obtain ⟨g, hg⟩ : ∃ g, g = w.heap.size := ⟨_, rfl⟩
 obtain ⟨Y0, eY0, hA, bY0⟩ := box1 w 32 #[.bool false, .slice A1 L1 C1, .slice D1 M1 E1]
 have zY0 : Y0.heap.size = g + 1 := by rw [eY0, World.size_alloc, ← hg]
 rw [← hg] at hA
 replace q1 := q1.below bY0
 replace q2 := q2.below bY0
 have hB := bY0
 obtain ⟨Y1, eY1, hM, bY1⟩ := box1 Y0 32 #[.bool false, .slice A2 L2 C2, .slice D2 M2 E2]
 have zY1 : Y1.heap.size = g + 1 + 1 := by rw [eY1, World.size_alloc, zY0]
 rw [zY0] at hM
 replace hA := hA.below bY1 hA.lt
 replace q1 := q1.below bY1
 replace q2 := q2.below bY1
 replace hB := hB.trans (bY1.mono hB.size)
 obtain ⟨Y2, eY2, hR, bY2⟩ := box1 Y1 32 #[.bool false, .slice none 0 0, .slice none 0 0]
 have zY2 : Y2.heap.size = g + 1 + 1 + 1 := by rw [eY2, World.size_alloc, zY1]
 rw [zY1] at hR
 replace hA := hA.below bY2 hA.lt
 replace hM := hM.below bY2 hM.lt
 replace q1 := q1.below bY2
 replace q2 := q2.below bY2
 replace hB := hB.trans (bY2.mono hB.size)
 have hgw : w.heap.size ≤ g := by omega
 have EY := Lib.hid (And.intro hg (And.intro eY0 (And.intro eY1 eY2)))
 clear hg eY0 zY0 eY1 zY1 eY2 zY2
 obtain ⟨c0, c1, c2⟩ := hA.q3
 obtain ⟨c3, c4, c5⟩ := hM.q3
 obtain ⟨c6, c7, c8⟩ := hR.q3
 go_enter Tryz.func18, Tryz.ntmps18
 go_wp2_with fail
 rw [← EY.out.2.1, ← EY.out.2.2.1, ← EY.out.2.2.2, ← EY.out.1]
 refine (hN _).mono ?_
 rintro e w2 ⟨v3, rfl, q3, b2⟩
 replace q1 := q1.below b2
 replace q2 := q2.below b2
 replace hA := hA.below b2 hA.lt
 replace hM := hM.below b2 hM.lt
 replace hR := hR.below b2 hR.lt
 replace hB := hB.trans (b2.mono hB.size)
 clear c0 c1 c2 c3 c4 c5 c6 c7 c8
 obtain ⟨c9, c10, c11⟩ := hA.q3
 obtain ⟨c12, c13, c14⟩ := hM.q3
 obtain ⟨c15, c16, c17⟩ := hR.q3
 obtain ⟨s3, A3, L3, C3, D3, M3, E3, rfl, q3⟩ := q3.opn
 obtain ⟨V4, eV, hV, bV4⟩ := box1 w2 32 #[.bool s3, .slice A3 L3 C3, .slice D3 M3 E3]
 obtain ⟨X4, eX⟩ : ∃ X, X = w2.heap.size := ⟨_, rfl⟩
 rw [← eX] at hV
 have lX4 : w.heap.size ≤ X4 := by rw [eX]; exact hB.size
 have dX4_hA : g ≠ X4 := by have := hA.lt; omega
 have dX4_hM : g + 1 ≠ X4 := by have := hM.lt; omega
 have dX4_hR : g + 1 + 1 ≠ X4 := by have := hR.lt; omega
 have EV4 := Lib.hid (And.intro eV eX)
 clear eV eX
 go_upto_region 2 with fail
 rw [← EV4.out.1, ← EV4.out.2]
 replace q1 := q1.below bV4
 replace q2 := q2.below bV4
 replace hA := hA.below bV4 hA.lt
 replace hM := hM.below bV4 hM.lt
 replace hR := hR.below bV4 hR.lt
 replace q3 := q3.below bV4
 replace hB := hB.trans (bV4.mono hB.size)
 clear c9 c10 c11 c12 c13 c14 c15 c16 c17
 obtain ⟨c18, c19, c20⟩ := hA.q3
 obtain ⟨c21, c22, c23⟩ := hM.q3
 obtain ⟨c24, c25, c26⟩ := hR.q3
 obtain ⟨c27, c28, c29⟩ := hV.q3
 replace hB := hB.drew
 replace q1 := q1.below (bdrew _)
 replace q2 := q2.below (bdrew _)
 replace hA := hA.drew
 replace hM := hM.drew
 replace hR := hR.drew
 replace q3 := q3.below (bdrew _)
 replace hV := hV.drew
 clear c18 c19 c20 c21 c22 c23 c24 c25 c26 c27 c28 c29
 refine wp_region_noPanic ?_
 refine wp_region_held_drew (S := fun w' => w'.cell? ⟨X4, 0, none⟩ = some (.bool s3) ∧ w'.cell? ⟨X4, 1, none⟩ = some (.slice A3 L3 C3) ∧ w'.cell? ⟨X4, 2, none⟩ = some (.slice D3 M3 E3) ∧ w'.cell? ⟨g, 0, none⟩ = some (.bool false) ∧ w'.cell? ⟨g, 1, none⟩ = some (.slice A1 L1 C1) ∧ w'.cell? ⟨g, 2, none⟩ = some (.slice D1 M1 E1) ∧ w'.cell? ⟨g + 1, 0, none⟩ = some (.bool false) ∧ w'.cell? ⟨g + 1, 1, none⟩ = some (.slice A2 L2 C2) ∧ w'.cell? ⟨g + 1, 2, none⟩ = some (.slice D2 M2 E2)) (by kernel_rfl) ?_ (fun hHeld => ?_)
 · exact ⟨hV.cell 0, hV.cell 1, hV.cell 2, hA.cell 0, hA.cell 1, hA.cell 2, hM.cell 0, hM.cell 1, hM.cell 2⟩
 obtain ⟨wd2_1, hwd⟩ : ∃ q, q = V4.drew := ⟨_, rfl⟩
 rw [← hwd] at hB q1 q2 hA hM hR q3 hV hHeld ⊢
 clear hwd
 refine tkH 0 rfl (v := ?v1) ?h1 ?r1
 case h1 => intro w hSw; (try dsimp only at hSw); go_simp; try (with_reducible rfl)
 refine tkH 1 rfl (v := ?v2) ?h2 ?r2
 case h2 => intro w hSw; (try dsimp only at hSw); go_simp; try (with_reducible rfl)
 refine tkH 2 rfl (v := ?v3) ?h3 ?r3
 case h3 => intro w hSw; (try dsimp only at hSw); go_simp; try (with_reducible rfl)
 refine tkH 3 rfl (v := ?v4) ?h4 ?r4
 case h4 => intro w hSw; (try dsimp only at hSw); go_simp; try (with_reducible rfl)
 refine tkH 4 rfl (v := ?v5) ?h5 ?r5
 case h5 => intro w hSw; (try dsimp only at hSw); go_simp; try (with_reducible rfl)
 refine tkH 5 rfl (v := ?v6) ?h6 ?r6
 case h6 => intro w hSw; (try dsimp only at hSw); go_simp; try (with_reducible rfl)
 refine tkH 6 rfl (v := ?v7) ?h7 ?r7
 case h7 => intro w hSw; (try dsimp only at hSw); go_simp; try (with_reducible rfl)
 refine tkH 7 rfl (v := ?v8) ?h8 ?r8
 case h8 => intro w hSw; (try dsimp only at hSw); go_simp; try (with_reducible rfl)
 try simp only [Act.put, lay1, lay2, lay3, lay4, lay5, lay6]
 refine wpAnyH_ready (rs := [8]) (by kernel_rfl) (by simp) (AllReadyH.cons rfl (fun K hK => ?_) AllReadyH.nil)
 go_simp
 refine (hO _).mono ?_
 rintro e u2_1 ⟨v4, rfl, q4, b2_1⟩
 replace q1 := q1.below b2_1
 replace q2 := q2.below b2_1
 replace hA := hA.below b2_1 hA.lt
 replace hM := hM.below b2_1 hM.lt
 replace hR := hR.below b2_1 hR.lt
 replace q3 := q3.below b2_1
 replace hV := hV.below b2_1 hV.lt
 replace hB := hB.trans (b2_1.mono hB.size)
 obtain ⟨s4, A4, L4, C4, D4, M4, E4, rfl, q4⟩ := q4.opn
 go_wp2_with fail
 refine hK.out _ _ ?_ (fun hHeld => ?_)
 · exact ⟨hV.cell 0, hV.cell 1, hV.cell 2, hA.cell 0, hA.cell 1, hA.cell 2, hM.cell 0, hM.cell 1, hM.cell 2⟩
 clear hK K
 try simp only [Act.put, lay1, lay2, lay3, lay4, lay5, lay6]
 refine wpAnyH_ready (rs := [9]) (by kernel_rfl) (by simp) (AllReadyH.cons rfl (fun K hK => ?_) AllReadyH.nil)
 go_simp
 refine (hC _ _ _ q3 q4).mono ?_
 rintro e u2_2 ⟨rfl, b2_2⟩
 replace q1 := q1.below b2_2
 replace q2 := q2.below b2_2
 replace hA := hA.below b2_2 hA.lt
 replace hM := hM.below b2_2 hM.lt
 replace hR := hR.below b2_2 hR.lt
 replace q3 := q3.below b2_2
 replace hV := hV.below b2_2 hV.lt
 replace q4 := q4.below b2_2
 replace hB := hB.trans (b2_2.mono hB.size)
 go_wp2_with fail
 refine hK.out _ _ ?_ (fun hHeld => ?_)
 · exact ⟨hV.cell 0, hV.cell 1, hV.cell 2, hA.cell 0, hA.cell 1, hA.cell 2, hM.cell 0, hM.cell 1, hM.cell 2⟩
 clear hK K
 refine tkH 10 rfl (v := ?v9) ?h9 ?r9
 case h9 => intro w hSw; (try dsimp only at hSw); go_simp; try (with_reducible rfl)
 refine tkH 11 rfl (v := ?v10) ?h10 ?r10
 case h10 => intro w hSw; (try dsimp only at hSw); go_simp; try (with_reducible rfl)
 refine tkH 12 rfl (v := ?v11) ?h11 ?r11
 case h11 => intro w hSw; (try dsimp only at hSw); go_simp; try (with_reducible rfl)
 refine tkH 13 rfl (v := ?v12) ?h12 ?r12
 case h12 => intro w hSw; (try dsimp only at hSw); go_simp; try (with_reducible rfl)
 refine tkH 14 rfl (v := ?v13) ?h13 ?r13
 case h13 => intro w hSw; (try dsimp only at hSw); go_simp; try (with_reducible rfl)
 refine tkH 15 rfl (v := ?v14) ?h14 ?r14
 case h14 => intro w hSw; (try dsimp only at hSw); go_simp; try (with_reducible rfl)
 refine tkH 16 rfl (v := ?v15) ?h15 ?r15
 case h15 => intro w hSw; (try dsimp only at hSw); go_simp; try (with_reducible rfl)
 refine tkH 17 rfl (v := ?v16) ?h16 ?r16
 case h16 => intro w hSw; (try dsimp only at hSw); go_simp; try (with_reducible rfl)
 refine tkH 18 rfl (v := ?v17) ?h17 ?r17
 case h17 => intro w hSw; (try dsimp only at hSw); go_simp; try (with_reducible rfl)
 refine tkH 19 rfl (v := ?v18) ?h18 ?r18
 case h18 => intro w hSw; (try dsimp only at hSw); go_simp; try (with_reducible rfl)
 refine tkH 20 rfl (v := ?v19) ?h19 ?r19
 case h19 => intro w hSw; (try dsimp only at hSw); go_simp; try (with_reducible rfl)
 refine tkH 21 rfl (v := ?v20) ?h20 ?r20
 case h20 => intro w hSw; (try dsimp only at hSw); go_simp; try (with_reducible rfl)
 try simp only [Act.put, lay1, lay2, lay3, lay4, lay5, lay6]
 try dsimp only
 try simp only [Act.put, lay1, lay2, lay3, lay4, lay5, lay6]
 refine wpAnyH_done (by kernel_rfl) ?_ _
 refine NoPanic.normal ?_
 skip
 obtain ⟨c30, c31, c32⟩ := hA.q3
 obtain ⟨c33, c34, c35⟩ := hM.q3
 obtain ⟨c36, c37, c38⟩ := hR.q3
 obtain ⟨c39, c40, c41⟩ := hV.q3
 go_upto_region 4 with fail
 replace hB := hB.drew
 replace q1 := q1.below (bdrew _)
 replace q2 := q2.below (bdrew _)
 replace hA := hA.drew
 replace hM := hM.drew
 replace hR := hR.drew
 replace q3 := q3.below (bdrew _)
 replace hV := hV.drew
 clear c30 c31 c32 c33 c34 c35 c36 c37 c38 c39 c40 c41
 refine wp_region_noPanic ?_
 refine wp_region_held_drew (S := fun w' => w'.cell? ⟨X4, 0, none⟩ = some (.bool s3) ∧ w'.cell? ⟨X4, 1, none⟩ = some (.slice A3 L3 C3) ∧ w'.cell? ⟨X4, 2, none⟩ = some (.slice D3 M3 E3) ∧ w'.cell? ⟨g, 0, none⟩ = some (.bool false) ∧ w'.cell? ⟨g, 1, none⟩ = some (.slice A1 L1 C1) ∧ w'.cell? ⟨g, 2, none⟩ = some (.slice D1 M1 E1) ∧ w'.cell? ⟨g + 1, 0, none⟩ = some (.bool false) ∧ w'.cell? ⟨g + 1, 1, none⟩ = some (.slice A2 L2 C2) ∧ w'.cell? ⟨g + 1, 2, none⟩ = some (.slice D2 M2 E2)) (by kernel_rfl) ?_ (fun hHeld => ?_)
 · exact ⟨hV.cell 0, hV.cell 1, hV.cell 2, hA.cell 0, hA.cell 1, hA.cell 2, hM.cell 0, hM.cell 1, hM.cell 2⟩
 obtain ⟨wd4_2, hwd⟩ : ∃ q, q = u2_2.drew := ⟨_, rfl⟩
 rw [← hwd] at hB q1 q2 hA hM hR q3 hV hHeld ⊢
 clear hwd
 refine tkH 0 rfl (v := ?v21) ?h21 ?r21
 case h21 => intro w hSw; (try dsimp only at hSw); go_simp; try (with_reducible rfl)
 refine tkH 1 rfl (v := ?v22) ?h22 ?r22
 case h22 => intro w hSw; (try dsimp only at hSw); go_simp; try (with_reducible rfl)
 refine tkH 3 rfl (v := ?v23) ?h23 ?r23
 case h23 => intro w hSw; (try dsimp only at hSw); go_simp; try (with_reducible rfl)
 try simp only [Act.put, lay1, lay2, lay3, lay4, lay5, lay6]
 refine wpAnyH_ready (rs := [2]) (by kernel_rfl) (by simp) (AllReadyH.cons rfl (fun K hK => ?_) AllReadyH.nil)
 go_simp
 refine (hMu _ _ _ q3 q1).mono ?_
 rintro e u4_1 ⟨v5, rfl, q5, b4_1⟩
 replace q1 := q1.below b4_1
 replace q2 := q2.below b4_1
 replace hA := hA.below b4_1 hA.lt
 replace hM := hM.below b4_1 hM.lt
 replace hR := hR.below b4_1 hR.lt
 replace q3 := q3.below b4_1
 replace hV := hV.below b4_1 hV.lt
 replace hB := hB.trans (b4_1.mono hB.size)
 obtain ⟨s5, A5, L5, C5, D5, M5, E5, rfl, q5⟩ := q5.opn
 go_wp2_with fail
 refine hK.out _ _ ?_ (fun hHeld => ?_)
 · exact ⟨hV.cell 0, hV.cell 1, hV.cell 2, hA.cell 0, hA.cell 1, hA.cell 2, hM.cell 0, hM.cell 1, hM.cell 2⟩
 clear hK K
 try simp only [Act.put, lay1, lay2, lay3, lay4, lay5, lay6]
 refine wpAnyH_ready (rs := [4]) (by kernel_rfl) (by simp) (AllReadyH.cons rfl (fun K hK => ?_) AllReadyH.nil)
 go_simp
 refine (hAd _ _ _ q5 q2).mono ?_
 rintro e u4_2 ⟨v6, rfl, q6, b4_2⟩
 replace q1 := q1.below b4_2
 replace q2 := q2.below b4_2
 replace hA := hA.below b4_2 hA.lt
 replace hM := hM.below b4_2 hM.lt
 replace hR := hR.below b4_2 hR.lt
 replace q3 := q3.below b4_2
 replace hV := hV.below b4_2 hV.lt
 replace q5 := q5.below b4_2
 replace hB := hB.trans (b4_2.mono hB.size)
 obtain ⟨s6, A6, L6, C6, D6, M6, E6, rfl, q6⟩ := q6.opn
 go_wp2_with fail
 refine hK.out _ _ ?_ (fun hHeld => ?_)
 · exact ⟨hV.cell 0, hV.cell 1, hV.cell 2, hA.cell 0, hA.cell 1, hA.cell 2, hM.cell 0, hM.cell 1, hM.cell 2⟩
 clear hK K
 try simp only [Act.put, lay1, lay2, lay3, lay4, lay5, lay6]
 refine wpAnyH_ready (rs := [5]) (by kernel_rfl) (by simp) (AllReadyH.cons rfl (fun K hK => ?_) AllReadyH.nil)
 go_simp
 refine (hUp _ _ q6).mono ?_
 rintro e u4_3 ⟨v7, rfl, q7, b4_3⟩
 replace q1 := q1.below b4_3
 replace q2 := q2.below b4_3
 replace hA := hA.below b4_3 hA.lt
 replace hM := hM.below b4_3 hM.lt
 replace hR := hR.below b4_3 hR.lt
 replace q3 := q3.below b4_3
 replace hV := hV.below b4_3 hV.lt
 replace q5 := q5.below b4_3
 replace q6 := q6.below b4_3
 replace hB := hB.trans (b4_3.mono hB.size)
 obtain ⟨s7, A7, L7, C7, D7, M7, E7, rfl, q7⟩ := q7.opn
 go_wp2_with fail
 refine hK.out _ _ ?_ (fun hHeld => ?_)
 · exact ⟨hV.cell 0, hV.cell 1, hV.cell 2, hA.cell 0, hA.cell 1, hA.cell 2, hM.cell 0, hM.cell 1, hM.cell 2⟩
 clear hK K
 try simp only [Act.put, lay1, lay2, lay3, lay4, lay5, lay6]
 refine wpAnyH_ready (rs := [6]) (by kernel_rfl) (by simp) (AllReadyH.cons rfl (fun K hK => ?_) AllReadyH.nil)
 obtain ⟨u4_4, eu, hR', kz, kb, kB⟩ := fill3 hR (.bool s7) (.slice A7 L7 C7) (.slice D7 M7 E7) (by simp [noU])
 have x0 : World.cell? _ ⟨g + 1 + 1, 0, none⟩ = some (.bool false) := hR.cell 0
 have x1 : World.cell? _ ⟨g + 1 + 1, 1, none⟩ = some (.slice none 0 0) := hR.cell 1
 have x2 : World.cell? _ ⟨g + 1 + 1, 2, none⟩ = some (.slice none 0 0) := hR.cell 2
 have xf := hR.frozen
 go_simp
 rw [← eu]
 replace q1 := q1.filled kz
 replace q2 := q2.filled kz
 replace hA := kb _ _ _ hA (by omega)
 replace hM := kb _ _ _ hM (by omega)
 replace q3 := q3.filled kz
 replace hV := kb _ _ _ hV (by omega)
 replace q5 := q5.filled kz
 replace q6 := q6.filled kz
 replace q7 := q7.filled kz
 replace hB := kB _ _ (by omega) hB
 replace hR := hR'
 clear hR' kz kb kB eu xf x0 x1 x2
 refine hK.out _ _ ?_ (fun hHeld => ?_)
 · exact ⟨hV.cell 0, hV.cell 1, hV.cell 2, hA.cell 0, hA.cell 1, hA.cell 2, hM.cell 0, hM.cell 1, hM.cell 2⟩
 clear hK K
 refine tkH 7 rfl (v := ?v24) ?h24 ?r24
 case h24 => intro w hSw; (try dsimp only at hSw); go_simp; try (with_reducible rfl)
 try simp only [Act.put, lay1, lay2, lay3, lay4, lay5, lay6]
 try dsimp only
 try simp only [Act.put, lay1, lay2, lay3, lay4, lay5, lay6]
 refine wpAnyH_done (by kernel_rfl) ?_ _
 refine NoPanic.normal ?_
 skip
 obtain ⟨c42, c43, c44⟩ := hA.q3
 obtain ⟨c45, c46, c47⟩ := hM.q3
 obtain ⟨c48, c49, c50⟩ := hR.q3
 obtain ⟨c51, c52, c53⟩ := hV.q3
 go_wp2_with fail
 exact bodyPost_ret (v := .tuple #[.agg #[.bool s7, .slice A7 L7 C7, .slice D7 M7 E7], .int .i64 0]) (by simp [results, Tryz.results18, go_sem, c48, c49, c50]) rfl ⟨_, rfl, q7, hB⟩
set_option maxRecDepth 100000 in
set_option maxHeartbeats 8000000 in
theorem rnext_b0 (beta f : Int) (va vm : Value) (a m : Rat) (w : World) (ha : IsQ w va a) (hm : IsQ w vm m) (hf : f < 0 ∨ 40 < f) :
   Calls Tryz.prog 18 #[.int .i64 beta, .int .i64 f, va, vm] w fun e w' => e = .returned (.tuple #[.agg #[.bool false, .slice none 0 0, .slice none 0 0], .int .i64 1]) ∧ Below w.heap.size w w' := by
 obtain ⟨s1, A1, L1, C1, D1, M1, E1, rfl, q1⟩ := ha.opn
 obtain ⟨s2, A2, L2, C2, D2, M2, E2, rfl, q2⟩ := hm.opn
 have hN := fun w => rrat_bad beta f w hf
 clear hf
 clear ha hm q1 q2
 obtain ⟨g, hg⟩ : ∃ g, g = w.heap.size := ⟨_, rfl⟩
 obtain ⟨Y0, eY0, hA, bY0⟩ := box1 w 32 #[.bool s1, .slice A1 L1 C1, .slice D1 M1 E1]
 have zY0 : Y0.heap.size = g + 1 := by rw [eY0, World.size_alloc, ← hg]
 rw [← hg] at hA
 have hB := bY0
 obtain ⟨Y1, eY1, hM, bY1⟩ := box1 Y0 32 #[.bool s2, .slice A2 L2 C2, .slice D2 M2 E2]
 have zY1 : Y1.heap.size = g + 1 + 1 := by rw [eY1, World.size_alloc, zY0]
 rw [zY0] at hM
 replace hA := hA.below bY1 hA.lt
 replace hB := hB.trans (bY1.mono hB.size)
 obtain ⟨Y2, eY2, hR, bY2⟩ := box1 Y1 32 #[.bool false, .slice none 0 0, .slice none 0 0]
 have zY2 : Y2.heap.size = g + 1 + 1 + 1 := by rw [eY2, World.size_alloc, zY1]
 rw [zY1] at hR
 replace hA := hA.below bY2 hA.lt
 replace hM := hM.below bY2 hM.lt
 replace hB := hB.trans (bY2.mono hB.size)
 have hgw : w.heap.size ≤ g := by omega
 have EY := Lib.hid (And.intro hg (And.intro eY0 (And.intro eY1 eY2)))
 clear hg eY0 zY0 eY1 zY1 eY2 zY2
 obtain ⟨c0, c1, c2⟩ := hA.q3
 obtain ⟨c3, c4, c5⟩ := hM.q3
 obtain ⟨c6, c7, c8⟩ := hR.q3
 go_enter Tryz.func18, Tryz.ntmps18
 go_wp2_with fail
 rw [← EY.out.2.1, ← EY.out.2.2.1, ← EY.out.2.2.2, ← EY.out.1]
 refine (hN _).mono ?_
 rintro e w2 ⟨rfl, b2⟩
 replace hA := hA.below b2 hA.lt
 replace hM := hM.below b2 hM.lt
 replace hR := hR.below b2 hR.lt
 replace hB := hB.trans (b2.mono hB.size)
 clear c0 c1 c2 c3 c4 c5 c6 c7 c8
 obtain ⟨c9, c10, c11⟩ := hA.q3
 obtain ⟨c12, c13, c14⟩ := hM.q3
 obtain ⟨c15, c16, c17⟩ := hR.q3
 obtain ⟨V4, eV, hV, bV4⟩ := box1 w2 32 #[.bool false, .slice none 0 0, .slice none 0 0]
 obtain ⟨X4, eX⟩ : ∃ X, X = w2.heap.size := ⟨_, rfl⟩
 rw [← eX] at hV
 have lX4 : w.heap.size ≤ X4 := by rw [eX]; exact hB.size
 have dX4_hA : g ≠ X4 := by have := hA.lt; omega
 have dX4_hM : g + 1 ≠ X4 := by have := hM.lt; omega
 have dX4_hR : g + 1 + 1 ≠ X4 := by have := hR.lt; omega
 have EV4 := Lib.hid (And.intro eV eX)
 clear eV eX
 go_upto_region 2 with fail
 rw [← EV4.out.1, ← EV4.out.2]
 replace hA := hA.below bV4 hA.lt
 replace hM := hM.below bV4 hM.lt
 replace hR := hR.below bV4 hR.lt
 replace hB := hB.trans (bV4.mono hB.size)
 clear c9 c10 c11 c12 c13 c14 c15 c16 c17
 obtain ⟨c18, c19, c20⟩ := hA.q3
 obtain ⟨c21, c22, c23⟩ := hM.q3
 obtain ⟨c24, c25, c26⟩ := hR.q3
 obtain ⟨c27, c28, c29⟩ := hV.q3
 replace hB := hB.drew
 replace hA := hA.drew
 replace hM := hM.drew
 replace hR := hR.drew
 replace hV := hV.drew
 clear c18 c19 c20 c21 c22 c23 c24 c25 c26 c27 c28 c29
 refine wp_region_noPanic ?_
 refine wp_region_held_drew (S := fun w' => w'.cell? ⟨X4, 0, none⟩ = some (.bool false) ∧ w'.cell? ⟨X4, 1, none⟩ = some (.slice none 0 0) ∧ w'.cell? ⟨X4, 2, none⟩ = some (.slice none 0 0) ∧ w'.cell? ⟨g, 0, none⟩ = some (.bool s1) ∧ w'.cell? ⟨g, 1, none⟩ = some (.slice A1 L1 C1) ∧ w'.cell? ⟨g, 2, none⟩ = some (.slice D1 M1 E1) ∧ w'.cell? ⟨g + 1, 0, none⟩ = some (.bool s2) ∧ w'.cell? ⟨g + 1, 1, none⟩ = some (.slice A2 L2 C2) ∧ w'.cell? ⟨g + 1, 2, none⟩ = some (.slice D2 M2 E2)) (by kernel_rfl) ?_ (fun hHeld => ?_)
 · exact ⟨hV.cell 0, hV.cell 1, hV.cell 2, hA.cell 0, hA.cell 1, hA.cell 2, hM.cell 0, hM.cell 1, hM.cell 2⟩
 obtain ⟨wd2_1, hwd⟩ : ∃ q, q = V4.drew := ⟨_, rfl⟩
 rw [← hwd] at hB hA hM hR hV hHeld ⊢
 clear hwd
 refine tkH 0 rfl (v := ?v25) ?h25 ?r25
 case h25 => intro w hSw; (try dsimp only at hSw); go_simp; try (with_reducible rfl)
 refine tkH 1 rfl (v := ?v26) ?h26 ?r26
 case h26 => intro w hSw; (try dsimp only at hSw); go_simp; try (with_reducible rfl)
 refine tkH 2 rfl (v := ?v27) ?h27 ?r27
 case h27 => intro w hSw; (try dsimp only at hSw); go_simp; try (with_reducible rfl)
 refine tkS 3 rfl ?_
 refine tkS 4 rfl ?_
 refine tkH 5 rfl (v := ?v30) ?h30 ?r30
 case h30 => intro w hSw; (try dsimp only at hSw); go_simp; try (with_reducible rfl)
 refine tkH 6 rfl (v := ?v31) ?h31 ?r31
 case h31 => intro w hSw; (try dsimp only at hSw); go_simp; try (with_reducible rfl)
 refine tkS 7 rfl ?_
 refine tkS 8 rfl ?_
 refine tkS 9 rfl ?_
 refine tkS 10 rfl ?_
 refine tkH 11 rfl (v := ?v36) ?h36 ?r36
 case h36 => intro w hSw; (try dsimp only at hSw); go_simp; try (with_reducible rfl)
 refine tkH 12 rfl (v := ?v37) ?h37 ?r37
 case h37 => intro w hSw; (try dsimp only at hSw); go_simp; try (with_reducible rfl)
 refine tkS 13 rfl ?_
 refine tkS 14 rfl ?_
 refine tkS 15 rfl ?_
 refine tkH 16 rfl (v := ?v41) ?h41 ?r41
 case h41 => intro w hSw; (try dsimp only at hSw); go_simp; try (with_reducible rfl)
 refine tkH 17 rfl (v := ?v42) ?h42 ?r42
 case h42 => intro w hSw; (try dsimp only at hSw); go_simp; try (with_reducible rfl)
 refine tkS 18 rfl ?_
 refine tkS 19 rfl ?_
 refine tkS 20 rfl ?_
 refine tkH 21 rfl (v := ?v46) ?h46 ?r46
 case h46 => intro w hSw; (try dsimp only at hSw); go_simp; try (with_reducible rfl)
 try simp only [Act.put, lay1, lay2, lay3, lay4, lay5, lay6]
 try dsimp only
 try simp only [Act.put, lay1, lay2, lay3, lay4, lay5, lay6]
 refine wpAnyH_done (by kernel_rfl) ?_ _
 refine NoPanic.normal ?_
 skip
 obtain ⟨c30, c31, c32⟩ := hA.q3
 obtain ⟨c33, c34, c35⟩ := hM.q3
 obtain ⟨c36, c37, c38⟩ := hR.q3
 obtain ⟨c39, c40, c41⟩ := hV.q3
 obtain ⟨p1, p2, p3⟩ := put3 hR (.bool false) (.slice none 0 0) (.slice none 0 0) (by simp [noU]) hB (by omega)
 have rc0 : World.cell? _ ⟨g + 1 + 1, 0, none⟩ = some (.bool false) := hR.cell 0
 have rf0 := hR.frozen 0
 have rc1 : World.cell? _ ⟨g + 1 + 1, 1, none⟩ = some (.slice none 0 0) := hR.cell 1
 have rf1 := hR.frozen 1
 have rc2 : World.cell? _ ⟨g + 1 + 1, 2, none⟩ = some (.slice none 0 0) := hR.cell 2
 have rf2 := hR.frozen 2
 have P := Lib.hid (And.intro trivial (And.intro p3 p1.cells3))
 clear p1 p2 p3
 go_wp2_with fail
 obtain ⟨P1, P2, P3, P4, P5⟩ := P.out
 exact bodyPost_ret (v := .tuple #[.agg #[.bool false, .slice none 0 0, .slice none 0 0], .int .i64 1]) (by simp [results, Tryz.results18, go_sem, P3, P4, P5]) rfl ⟨rfl, P2⟩
set_option maxRecDepth 100000 in
set_option maxHeartbeats 8000000 in
theorem rnext_b1 (beta f : Int) (va vm : Value) (a m : Rat) (w : World) (ha : IsQ w va a) (hm : IsQ w vm m) (hf0 : 0 ≤ f) (hf1 : f ≤ 40) (hb : In64 beta) (hb0 : beta < 0) :
   Calls Tryz.prog 18 #[.int .i64 beta, .int .i64 f, va, vm] w fun e w' => e = .returned (.tuple #[.agg #[.bool false, .slice none 0 0, .slice none 0 0], .int .i64 1]) ∧ Below w.heap.size w w' := by
 obtain ⟨s1, A1, L1, C1, D1, M1, E1, rfl, q1⟩ := ha.opn
 obtain ⟨s2, A2, L2, C2, D2, M2, E2, rfl, q2⟩ := hm.opn
 obtain ⟨k, rfl⟩ : ∃ k : Nat, f = (k : Int) := ⟨f.toNat, by omega⟩
 have hk : k ≤ 40 := by omega
 have hN := fun w => rrat_any beta k w hk hb
 generalize mkRat beta (2 ^ k) = x at *
 have hd0 : decide (beta < 0) = true := decide_eq_true hb0
 clear hb hf0 hf1 hb0
 clear ha hm q1 q2
 obtain ⟨g, hg⟩ : ∃ g, g = w.heap.size := ⟨_, rfl⟩
 obtain ⟨Y0, eY0, hA, bY0⟩ := box1 w 32 #[.bool s1, .slice A1 L1 C1, .slice D1 M1 E1]
 have zY0 : Y0.heap.size = g + 1 := by rw [eY0, World.size_alloc, ← hg]
 rw [← hg] at hA
 have hB := bY0
 obtain ⟨Y1, eY1, hM, bY1⟩ := box1 Y0 32 #[.bool s2, .slice A2 L2 C2, .slice D2 M2 E2]
 have zY1 : Y1.heap.size = g + 1 + 1 := by rw [eY1, World.size_alloc, zY0]
 rw [zY0] at hM
 replace hA := hA.below bY1 hA.lt
 replace hB := hB.trans (bY1.mono hB.size)
 obtain ⟨Y2, eY2, hR, bY2⟩ := box1 Y1 32 #[.bool false, .slice none 0 0, .slice none 0 0]
 have zY2 : Y2.heap.size = g + 1 + 1 + 1 := by rw [eY2, World.size_alloc, zY1]
 rw [zY1] at hR
 replace hA := hA.below bY2 hA.lt
 replace hM := hM.below bY2 hM.lt
 replace hB := hB.trans (bY2.mono hB.size)
 have hgw : w.heap.size ≤ g := by omega
 have EY := Lib.hid (And.intro hg (And.intro eY0 (And.intro eY1 eY2)))
 clear hg eY0 zY0 eY1 zY1 eY2 zY2
 obtain ⟨c0, c1, c2⟩ := hA.q3
 obtain ⟨c3, c4, c5⟩ := hM.q3
 obtain ⟨c6, c7, c8⟩ := hR.q3
 go_enter Tryz.func18, Tryz.ntmps18
 go_wp2_with fail
 rw [← EY.out.2.1, ← EY.out.2.2.1, ← EY.out.2.2.2, ← EY.out.1]
 refine (hN _).mono ?_
 rintro e w2 ⟨v3, rfl, q3, b2⟩
 replace hA := hA.below b2 hA.lt
 replace hM := hM.below b2 hM.lt
 replace hR := hR.below b2 hR.lt
 replace hB := hB.trans (b2.mono hB.size)
 clear c0 c1 c2 c3 c4 c5 c6 c7 c8
 obtain ⟨c9, c10, c11⟩ := hA.q3
 obtain ⟨c12, c13, c14⟩ := hM.q3
 obtain ⟨c15, c16, c17⟩ := hR.q3
 obtain ⟨s3, A3, L3, C3, D3, M3, E3, rfl, q3⟩ := q3.opn
 obtain ⟨V4, eV, hV, bV4⟩ := box1 w2 32 #[.bool s3, .slice A3 L3 C3, .slice D3 M3 E3]
 obtain ⟨X4, eX⟩ : ∃ X, X = w2.heap.size := ⟨_, rfl⟩
 rw [← eX] at hV
 have lX4 : w.heap.size ≤ X4 := by rw [eX]; exact hB.size
 have dX4_hA : g ≠ X4 := by have := hA.lt; omega
 have dX4_hM : g + 1 ≠ X4 := by have := hM.lt; omega
 have dX4_hR : g + 1 + 1 ≠ X4 := by have := hR.lt; omega
 have EV4 := Lib.hid (And.intro eV eX)
 clear eV eX
 go_upto_region 2 with fail
 rw [← EV4.out.1, ← EV4.out.2]
 replace hA := hA.below bV4 hA.lt
 replace hM := hM.below bV4 hM.lt
 replace hR := hR.below bV4 hR.lt
 replace q3 := q3.below bV4
 replace hB := hB.trans (bV4.mono hB.size)
 clear c9 c10 c11 c12 c13 c14 c15 c16 c17
 obtain ⟨c18, c19, c20⟩ := hA.q3
 obtain ⟨c21, c22, c23⟩ := hM.q3
 obtain ⟨c24, c25, c26⟩ := hR.q3
 obtain ⟨c27, c28, c29⟩ := hV.q3
 replace hB := hB.drew
 replace hA := hA.drew
 replace hM := hM.drew
 replace hR := hR.drew
 replace q3 := q3.below (bdrew _)
 replace hV := hV.drew
 clear c18 c19 c20 c21 c22 c23 c24 c25 c26 c27 c28 c29
 refine wp_region_noPanic ?_
 refine wp_region_held_drew (S := fun w' => w'.cell? ⟨X4, 0, none⟩ = some (.bool s3) ∧ w'.cell? ⟨X4, 1, none⟩ = some (.slice A3 L3 C3) ∧ w'.cell? ⟨X4, 2, none⟩ = some (.slice D3 M3 E3) ∧ w'.cell? ⟨g, 0, none⟩ = some (.bool s1) ∧ w'.cell? ⟨g, 1, none⟩ = some (.slice A1 L1 C1) ∧ w'.cell? ⟨g, 2, none⟩ = some (.slice D1 M1 E1) ∧ w'.cell? ⟨g + 1, 0, none⟩ = some (.bool s2) ∧ w'.cell? ⟨g + 1, 1, none⟩ = some (.slice A2 L2 C2) ∧ w'.cell? ⟨g + 1, 2, none⟩ = some (.slice D2 M2 E2)) (by kernel_rfl) ?_ (fun hHeld => ?_)
 · exact ⟨hV.cell 0, hV.cell 1, hV.cell 2, hA.cell 0, hA.cell 1, hA.cell 2, hM.cell 0, hM.cell 1, hM.cell 2⟩
 obtain ⟨wd2_1, hwd⟩ : ∃ q, q = V4.drew := ⟨_, rfl⟩
 rw [← hwd] at hB hA hM hR q3 hV hHeld ⊢
 clear hwd
 refine tkH 0 rfl (v := ?v47) ?h47 ?r47
 case h47 => intro w hSw; (try dsimp only at hSw); go_simp; try (with_reducible rfl)
 refine tkH 1 rfl (v := ?v48) ?h48 ?r48
 case h48 => intro w hSw; (try dsimp only at hSw); go_simp; try (with_reducible rfl)
 refine tkH 2 rfl (v := ?v49) ?h49 ?r49
 case h49 => intro w hSw; (try dsimp only at hSw); go_simp; try (with_reducible rfl)
 refine tkH 3 rfl (v := ?v50) ?h50 ?r50
 case h50 => intro w hSw; (try dsimp only at hSw); go_simp; try (with_reducible rfl)
 refine tkH 4 rfl (v := ?v51) ?h51 ?r51
 case h51 => intro w hSw; (try dsimp only at hSw); go_simp; try (with_reducible rfl)
 refine tkH 5 rfl (v := ?v52) ?h52 ?r52
 case h52 => intro w hSw; (try dsimp only at hSw); go_simp; try (with_reducible rfl)
 refine tkH 6 rfl (v := ?v53) ?h53 ?r53
 case h53 => intro w hSw; (try dsimp only at hSw); go_simp; try (with_reducible rfl)
 refine tkS 7 rfl ?_
 refine tkS 8 rfl ?_
 refine tkS 9 rfl ?_
 refine tkS 10 rfl ?_
 refine tkH 11 rfl (v := ?v58) ?h58 ?r58
 case h58 => intro w hSw; (try dsimp only at hSw); go_simp; try (with_reducible rfl)
 refine tkH 12 rfl (v := ?v59) ?h59 ?r59
 case h59 => intro w hSw; (try dsimp only at hSw); go_simp; try (with_reducible rfl)
 refine tkS 13 rfl ?_
 refine tkS 14 rfl ?_
 refine tkS 15 rfl ?_
 refine tkH 16 rfl (v := ?v63) ?h63 ?r63
 case h63 => intro w hSw; (try dsimp only at hSw); go_simp; try (with_reducible rfl)
 refine tkH 17 rfl (v := ?v64) ?h64 ?r64
 case h64 => intro w hSw; (try dsimp only at hSw); go_simp; try (with_reducible rfl)
 refine tkS 18 rfl ?_
 refine tkS 19 rfl ?_
 refine tkS 20 rfl ?_
 refine tkH 21 rfl (v := ?v68) ?h68 ?r68
 case h68 => intro w hSw; (try dsimp only at hSw); go_simp; try (with_reducible rfl)
 try simp only [Act.put, lay1, lay2, lay3, lay4, lay5, lay6]
 try dsimp only
 try simp only [Act.put, lay1, lay2, lay3, lay4, lay5, lay6]
 refine wpAnyH_done (by kernel_rfl) ?_ _
 refine NoPanic.normal ?_
 skip
 obtain ⟨c30, c31, c32⟩ := hA.q3
 obtain ⟨c33, c34, c35⟩ := hM.q3
 obtain ⟨c36, c37, c38⟩ := hR.q3
 obtain ⟨c39, c40, c41⟩ := hV.q3
 obtain ⟨p1, p2, p3⟩ := put3 hR (.bool false) (.slice none 0 0) (.slice none 0 0) (by simp [noU]) hB (by omega)
 have rc0 : World.cell? _ ⟨g + 1 + 1, 0, none⟩ = some (.bool false) := hR.cell 0
 have rf0 := hR.frozen 0
 have rc1 : World.cell? _ ⟨g + 1 + 1, 1, none⟩ = some (.slice none 0 0) := hR.cell 1
 have rf1 := hR.frozen 1
 have rc2 : World.cell? _ ⟨g + 1 + 1, 2, none⟩ = some (.slice none 0 0) := hR.cell 2
 have rf2 := hR.frozen 2
 have P := Lib.hid (And.intro trivial (And.intro p3 p1.cells3))
 clear p1 p2 p3
 go_wp2_with fail
 obtain ⟨P1, P2, P3, P4, P5⟩ := P.out
 exact bodyPost_ret (v := .tuple #[.agg #[.bool false, .slice none 0 0, .slice none 0 0], .int .i64 1]) (by simp [results, Tryz.results18, go_sem, P3, P4, P5]) rfl ⟨rfl, P2⟩
set_option maxRecDepth 100000 in
set_option maxHeartbeats 8000000 in
theorem rnext_b2 (beta f : Int) (va vm : Value) (a m : Rat) (w : World) (ha : IsQ w va a) (hm : IsQ w vm m) (hf0 : 0 ≤ f) (hf1 : f ≤ 40) (hb : In64 beta) (hb0 : ¬ beta < 0) (hb1 : (2 : Int) ^ f.toNat < beta) :
   Calls Tryz.prog 18 #[.int .i64 beta, .int .i64 f, va, vm] w fun e w' => e = .returned (.tuple #[.agg #[.bool false, .slice none 0 0, .slice none 0 0], .int .i64 1]) ∧ Below w.heap.size w w' := by
 obtain ⟨s1, A1, L1, C1, D1, M1, E1, rfl, q1⟩ := ha.opn
 obtain ⟨s2, A2, L2, C2, D2, M2, E2, rfl, q2⟩ := hm.opn
 obtain ⟨k, rfl⟩ : ∃ k : Nat, f = (k : Int) := ⟨f.toNat, by omega⟩
 have hk : k ≤ 40 := by omega
 have hN := fun w => rrat_any beta k w hk hb
 have sx := sz_man hb hk
 have hO := fun w => rqof_any 1 (by omega) (by omega) w
 have hC := fun u v w hu hv => rqcmp_any u v (mkRat beta (2 ^ k)) ((1 : Int) : Rat) w hu hv (sx.more (by omega)) ((BQ.int (by unfold W64; omega)).more (by omega))
 have e1 : (((1 : Int) : Rat)) = 1 := rfl
 rw [e1] at hO hC
 rw [Int.toNat_natCast] at hb1
 rw [cmp_one] at hC
 have hcc : decide (0 < cmpI beta ((2 : Int) ^ k)) = true := decide_eq_true (by unfold cmpI; (repeat' split) <;> omega)
 generalize cmpI beta ((2 : Int) ^ k) = cc at *
 clear e1 sx hb1
 generalize mkRat beta (2 ^ k) = x at *
 have hd0 : decide (beta < 0) = false := decide_eq_false hb0
 clear hb hf0 hf1 hb0
 clear ha hm q1 q2
 obtain ⟨g, hg⟩ : ∃ g, g = w.heap.size := ⟨_, rfl⟩
 obtain ⟨Y0, eY0, hA, bY0⟩ := box1 w 32 #[.bool s1, .slice A1 L1 C1, .slice D1 M1 E1]
 have zY0 : Y0.heap.size = g + 1 := by rw [eY0, World.size_alloc, ← hg]
 rw [← hg] at hA
 have hB := bY0
 obtain ⟨Y1, eY1, hM, bY1⟩ := box1 Y0 32 #[.bool s2, .slice A2 L2 C2, .slice D2 M2 E2]
 have zY1 : Y1.heap.size = g + 1 + 1 := by rw [eY1, World.size_alloc, zY0]
 rw [zY0] at hM
 replace hA := hA.below bY1 hA.lt
 replace hB := hB.trans (bY1.mono hB.size)
 obtain ⟨Y2, eY2, hR, bY2⟩ := box1 Y1 32 #[.bool false, .slice none 0 0, .slice none 0 0]
 have zY2 : Y2.heap.size = g + 1 + 1 + 1 := by rw [eY2, World.size_alloc, zY1]
 rw [zY1] at hR
 replace hA := hA.below bY2 hA.lt
 replace hM := hM.below bY2 hM.lt
 replace hB := hB.trans (bY2.mono hB.size)
 have hgw : w.heap.size ≤ g := by omega
 have EY := Lib.hid (And.intro hg (And.intro eY0 (And.intro eY1 eY2)))
 clear hg eY0 zY0 eY1 zY1 eY2 zY2
 obtain ⟨c0, c1, c2⟩ := hA.q3
 obtain ⟨c3, c4, c5⟩ := hM.q3
 obtain ⟨c6, c7, c8⟩ := hR.q3
 go_enter Tryz.func18, Tryz.ntmps18
 go_wp2_with fail
 rw [← EY.out.2.1, ← EY.out.2.2.1, ← EY.out.2.2.2, ← EY.out.1]
 refine (hN _).mono ?_
 rintro e w2 ⟨v3, rfl, q3, b2⟩
 replace hA := hA.below b2 hA.lt
 replace hM := hM.below b2 hM.lt
 replace hR := hR.below b2 hR.lt
 replace hB := hB.trans (b2.mono hB.size)
 clear c0 c1 c2 c3 c4 c5 c6 c7 c8
 obtain ⟨c9, c10, c11⟩ := hA.q3
 obtain ⟨c12, c13, c14⟩ := hM.q3
 obtain ⟨c15, c16, c17⟩ := hR.q3
 obtain ⟨s3, A3, L3, C3, D3, M3, E3, rfl, q3⟩ := q3.opn
 obtain ⟨V4, eV, hV, bV4⟩ := box1 w2 32 #[.bool s3, .slice A3 L3 C3, .slice D3 M3 E3]
 obtain ⟨X4, eX⟩ : ∃ X, X = w2.heap.size := ⟨_, rfl⟩
 rw [← eX] at hV
 have lX4 : w.heap.size ≤ X4 := by rw [eX]; exact hB.size
 have dX4_hA : g ≠ X4 := by have := hA.lt; omega
 have dX4_hM : g + 1 ≠ X4 := by have := hM.lt; omega
 have dX4_hR : g + 1 + 1 ≠ X4 := by have := hR.lt; omega
 have EV4 := Lib.hid (And.intro eV eX)
 clear eV eX
 go_upto_region 2 with fail
 rw [← EV4.out.1, ← EV4.out.2]
 replace hA := hA.below bV4 hA.lt
 replace hM := hM.below bV4 hM.lt
 replace hR := hR.below bV4 hR.lt
 replace q3 := q3.below bV4
 replace hB := hB.trans (bV4.mono hB.size)
 clear c9 c10 c11 c12 c13 c14 c15 c16 c17
 obtain ⟨c18, c19, c20⟩ := hA.q3
 obtain ⟨c21, c22, c23⟩ := hM.q3
 obtain ⟨c24, c25, c26⟩ := hR.q3
 obtain ⟨c27, c28, c29⟩ := hV.q3
 replace hB := hB.drew
 replace hA := hA.drew
 replace hM := hM.drew
 replace hR := hR.drew
 replace q3 := q3.below (bdrew _)
 replace hV := hV.drew
 clear c18 c19 c20 c21 c22 c23 c24 c25 c26 c27 c28 c29
 refine wp_region_noPanic ?_
 refine wp_region_held_drew (S := fun w' => w'.cell? ⟨X4, 0, none⟩ = some (.bool s3) ∧ w'.cell? ⟨X4, 1, none⟩ = some (.slice A3 L3 C3) ∧ w'.cell? ⟨X4, 2, none⟩ = some (.slice D3 M3 E3) ∧ w'.cell? ⟨g, 0, none⟩ = some (.bool s1) ∧ w'.cell? ⟨g, 1, none⟩ = some (.slice A1 L1 C1) ∧ w'.cell? ⟨g, 2, none⟩ = some (.slice D1 M1 E1) ∧ w'.cell? ⟨g + 1, 0, none⟩ = some (.bool s2) ∧ w'.cell? ⟨g + 1, 1, none⟩ = some (.slice A2 L2 C2) ∧ w'.cell? ⟨g + 1, 2, none⟩ = some (.slice D2 M2 E2)) (by kernel_rfl) ?_ (fun hHeld => ?_)
 · exact ⟨hV.cell 0, hV.cell 1, hV.cell 2, hA.cell 0, hA.cell 1, hA.cell 2, hM.cell 0, hM.cell 1, hM.cell 2⟩
 obtain ⟨wd2_1, hwd⟩ : ∃ q, q = V4.drew := ⟨_, rfl⟩
 rw [← hwd] at hB hA hM hR q3 hV hHeld ⊢
 clear hwd
 refine tkH 0 rfl (v := ?v69) ?h69 ?r69
 case h69 => intro w hSw; (try dsimp only at hSw); go_simp; try (with_reducible rfl)
 refine tkH 1 rfl (v := ?v70) ?h70 ?r70
 case h70 => intro w hSw; (try dsimp only at hSw); go_simp; try (with_reducible rfl)
 refine tkH 2 rfl (v := ?v71) ?h71 ?r71
 case h71 => intro w hSw; (try dsimp only at hSw); go_simp; try (with_reducible rfl)
 refine tkH 3 rfl (v := ?v72) ?h72 ?r72
 case h72 => intro w hSw; (try dsimp only at hSw); go_simp; try (with_reducible rfl)
 refine tkH 4 rfl (v := ?v73) ?h73 ?r73
 case h73 => intro w hSw; (try dsimp only at hSw); go_simp; try (with_reducible rfl)
 refine tkH 5 rfl (v := ?v74) ?h74 ?r74
 case h74 => intro w hSw; (try dsimp only at hSw); go_simp; try (with_reducible rfl)
 refine tkH 6 rfl (v := ?v75) ?h75 ?r75
 case h75 => intro w hSw; (try dsimp only at hSw); go_simp; try (with_reducible rfl)
 refine tkH 7 rfl (v := ?v76) ?h76 ?r76
 case h76 => intro w hSw; (try dsimp only at hSw); go_simp; try (with_reducible rfl)
 try simp only [Act.put, lay1, lay2, lay3, lay4, lay5, lay6]
 refine wpAnyH_ready (rs := [8]) (by kernel_rfl) (by simp) (AllReadyH.cons rfl (fun K hK => ?_) AllReadyH.nil)
 go_simp
 refine (hO _).mono ?_
 rintro e u2_1 ⟨v4, rfl, q4, b2_1⟩
 replace hA := hA.below b2_1 hA.lt
 replace hM := hM.below b2_1 hM.lt
 replace hR := hR.below b2_1 hR.lt
 replace q3 := q3.below b2_1
 replace hV := hV.below b2_1 hV.lt
 replace hB := hB.trans (b2_1.mono hB.size)
 obtain ⟨s4, A4, L4, C4, D4, M4, E4, rfl, q4⟩ := q4.opn
 go_wp2_with fail
 refine hK.out _ _ ?_ (fun hHeld => ?_)
 · exact ⟨hV.cell 0, hV.cell 1, hV.cell 2, hA.cell 0, hA.cell 1, hA.cell 2, hM.cell 0, hM.cell 1, hM.cell 2⟩
 clear hK K
 try simp only [Act.put, lay1, lay2, lay3, lay4, lay5, lay6]
 refine wpAnyH_ready (rs := [9]) (by kernel_rfl) (by simp) (AllReadyH.cons rfl (fun K hK => ?_) AllReadyH.nil)
 go_simp
 refine (hC _ _ _ q3 q4).mono ?_
 rintro e u2_2 ⟨rfl, b2_2⟩
 replace hA := hA.below b2_2 hA.lt
 replace hM := hM.below b2_2 hM.lt
 replace hR := hR.below b2_2 hR.lt
 replace q3 := q3.below b2_2
 replace hV := hV.below b2_2 hV.lt
 replace q4 := q4.below b2_2
 replace hB := hB.trans (b2_2.mono hB.size)
 go_wp2_with fail
 refine hK.out _ _ ?_ (fun hHeld => ?_)
 · exact ⟨hV.cell 0, hV.cell 1, hV.cell 2, hA.cell 0, hA.cell 1, hA.cell 2, hM.cell 0, hM.cell 1, hM.cell 2⟩
 clear hK K
 refine tkH 10 rfl (v := ?v77) ?h77 ?r77
 case h77 => intro w hSw; (try dsimp only at hSw); go_simp; try (with_reducible rfl)
 refine tkH 11 rfl (v := ?v78) ?h78 ?r78
 case h78 => intro w hSw; (try dsimp only at hSw); go_simp; try (with_reducible rfl)
 refine tkH 12 rfl (v := ?v79) ?h79 ?r79
 case h79 => intro w hSw; (try dsimp only at hSw); go_simp; try (with_reducible rfl)
 refine tkS 13 rfl ?_
 refine tkS 14 rfl ?_
 refine tkS 15 rfl ?_
 refine tkH 16 rfl (v := ?v83) ?h83 ?r83
 case h83 => intro w hSw; (try dsimp only at hSw); go_simp; try (with_reducible rfl)
 refine tkH 17 rfl (v := ?v84) ?h84 ?r84
 case h84 => intro w hSw; (try dsimp only at hSw); go_simp; try (with_reducible rfl)
 refine tkS 18 rfl ?_
 refine tkS 19 rfl ?_
 refine tkS 20 rfl ?_
 refine tkH 21 rfl (v := ?v88) ?h88 ?r88
 case h88 => intro w hSw; (try dsimp only at hSw); go_simp; try (with_reducible rfl)
 try simp only [Act.put, lay1, lay2, lay3, lay4, lay5, lay6]
 try dsimp only
 try simp only [Act.put, lay1, lay2, lay3, lay4, lay5, lay6]
 refine wpAnyH_done (by kernel_rfl) ?_ _
 refine NoPanic.normal ?_
 skip
 obtain ⟨c30, c31, c32⟩ := hA.q3
 obtain ⟨c33, c34, c35⟩ := hM.q3
 obtain ⟨c36, c37, c38⟩ := hR.q3
 obtain ⟨c39, c40, c41⟩ := hV.q3
 obtain ⟨p1, p2, p3⟩ := put3 hR (.bool false) (.slice none 0 0) (.slice none 0 0) (by simp [noU]) hB (by omega)
 have rc0 : World.cell? _ ⟨g + 1 + 1, 0, none⟩ = some (.bool false) := hR.cell 0
 have rf0 := hR.frozen 0
 have rc1 : World.cell? _ ⟨g + 1 + 1, 1, none⟩ = some (.slice none 0 0) := hR.cell 1
 have rf1 := hR.frozen 1
 have rc2 : World.cell? _ ⟨g + 1 + 1, 2, none⟩ = some (.slice none 0 0) := hR.cell 2
 have rf2 := hR.frozen 2
 have P := Lib.hid (And.intro trivial (And.intro p3 p1.cells3))
 clear p1 p2 p3
 go_wp2_with fail
 obtain ⟨P1, P2, P3, P4, P5⟩ := P.out
 exact bodyPost_ret (v := .tuple #[.agg #[.bool false, .slice none 0 0, .slice none 0 0], .int .i64 1]) (by simp [results, Tryz.results18, go_sem, P3, P4, P5]) rfl ⟨rfl, P2⟩
set_option maxRecDepth 100000 in
set_option maxHeartbeats 8000000 in
theorem rnext_b3 (beta f : Int) (va vm : Value) (a m : Rat) (w : World) (ha : IsQ w va a) (hm : IsQ w vm m) (hf0 : 0 ≤ f) (hf1 : f ≤ 40) (hb : In64 beta) (hb0 : ¬ beta < 0) (hb1 : ¬ (2 : Int) ^ f.toNat < beta) (na : decide (a.num < 0) = true) :
   Calls Tryz.prog 18 #[.int .i64 beta, .int .i64 f, va, vm] w fun e w' => e = .returned (.tuple #[.agg #[.bool false, .slice none 0 0, .slice none 0 0], .int .i64 1]) ∧ Below w.heap.size w w' := by
 obtain ⟨s1, A1, L1, C1, D1, M1, E1, rfl, q1⟩ := ha.opn
 obtain ⟨s2, A2, L2, C2, D2, M2, E2, rfl, q2⟩ := hm.opn
 obtain ⟨k, rfl⟩ : ∃ k : Nat, f = (k : Int) := ⟨f.toNat, by omega⟩
 have hk : k ≤ 40 := by omega
 have hN := fun w => rrat_any beta k w hk hb
 have sx := sz_man hb hk
 have hO := fun w => rqof_any 1 (by omega) (by omega) w
 have hC := fun u v w hu hv => rqcmp_any u v (mkRat beta (2 ^ k)) ((1 : Int) : Rat) w hu hv (sx.more (by omega)) ((BQ.int (by unfold W64; omega)).more (by omega))
 have e1 : (((1 : Int) : Rat)) = 1 := rfl
 rw [e1] at hO hC
 rw [Int.toNat_natCast] at hb1
 rw [cmp_one] at hC
 have hcc : decide (0 < cmpI beta ((2 : Int) ^ k)) = false := decide_eq_false (by unfold cmpI; (repeat' split) <;> omega)
 generalize cmpI beta ((2 : Int) ^ k) = cc at *
 clear e1 sx hb1
 generalize mkRat beta (2 ^ k) = x at *
 have hd0 : decide (beta < 0) = false := decide_eq_false hb0
 obtain rfl : s1 = true := by rw [q1.parts.1]; exact na
 clear na
 clear hb hf0 hf1 hb0
 clear ha hm q1 q2
 obtain ⟨g, hg⟩ : ∃ g, g = w.heap.size := ⟨_, rfl⟩
 obtain ⟨Y0, eY0, hA, bY0⟩ := box1 w 32 #[.bool true, .slice A1 L1 C1, .slice D1 M1 E1]
 have zY0 : Y0.heap.size = g + 1 := by rw [eY0, World.size_alloc, ← hg]
 rw [← hg] at hA
 have hB := bY0
 obtain ⟨Y1, eY1, hM, bY1⟩ := box1 Y0 32 #[.bool s2, .slice A2 L2 C2, .slice D2 M2 E2]
 have zY1 : Y1.heap.size = g + 1 + 1 := by rw [eY1, World.size_alloc, zY0]
 rw [zY0] at hM
 replace hA := hA.below bY1 hA.lt
 replace hB := hB.trans (bY1.mono hB.size)
 obtain ⟨Y2, eY2, hR, bY2⟩ := box1 Y1 32 #[.bool false, .slice none 0 0, .slice none 0 0]
 have zY2 : Y2.heap.size = g + 1 + 1 + 1 := by rw [eY2, World.size_alloc, zY1]
 rw [zY1] at hR
 replace hA := hA.below bY2 hA.lt
 replace hM := hM.below bY2 hM.lt
 replace hB := hB.trans (bY2.mono hB.size)
 have hgw : w.heap.size ≤ g := by omega
 have EY := Lib.hid (And.intro hg (And.intro eY0 (And.intro eY1 eY2)))
 clear hg eY0 zY0 eY1 zY1 eY2 zY2
 obtain ⟨c0, c1, c2⟩ := hA.q3
 obtain ⟨c3, c4, c5⟩ := hM.q3
 obtain ⟨c6, c7, c8⟩ := hR.q3
 go_enter Tryz.func18, Tryz.ntmps18
 go_wp2_with fail
 rw [← EY.out.2.1, ← EY.out.2.2.1, ← EY.out.2.2.2, ← EY.out.1]
 refine (hN _).mono ?_
 rintro e w2 ⟨v3, rfl, q3, b2⟩
 replace hA := hA.below b2 hA.lt
 replace hM := hM.below b2 hM.lt
 replace hR := hR.below b2 hR.lt
 replace hB := hB.trans (b2.mono hB.size)
 clear c0 c1 c2 c3 c4 c5 c6 c7 c8
 obtain ⟨c9, c10, c11⟩ := hA.q3
 obtain ⟨c12, c13, c14⟩ := hM.q3
 obtain ⟨c15, c16, c17⟩ := hR.q3
 obtain ⟨s3, A3, L3, C3, D3, M3, E3, rfl, q3⟩ := q3.opn
 obtain ⟨V4, eV, hV, bV4⟩ := box1 w2 32 #[.bool s3, .slice A3 L3 C3, .slice D3 M3 E3]
 obtain ⟨X4, eX⟩ : ∃ X, X = w2.heap.size := ⟨_, rfl⟩
 rw [← eX] at hV
 have lX4 : w.heap.size ≤ X4 := by rw [eX]; exact hB.size
 have dX4_hA : g ≠ X4 := by have := hA.lt; omega
 have dX4_hM : g + 1 ≠ X4 := by have := hM.lt; omega
 have dX4_hR : g + 1 + 1 ≠ X4 := by have := hR.lt; omega
 have EV4 := Lib.hid (And.intro eV eX)
 clear eV eX
 go_upto_region 2 with fail
 rw [← EV4.out.1, ← EV4.out.2]
 replace hA := hA.below bV4 hA.lt
 replace hM := hM.below bV4 hM.lt
 replace hR := hR.below bV4 hR.lt
 replace q3 := q3.below bV4
 replace hB := hB.trans (bV4.mono hB.size)
 clear c9 c10 c11 c12 c13 c14 c15 c16 c17
 obtain ⟨c18, c19, c20⟩ := hA.q3
 obtain ⟨c21, c22, c23⟩ := hM.q3
 obtain ⟨c24, c25, c26⟩ := hR.q3
 obtain ⟨c27, c28, c29⟩ := hV.q3
 replace hB := hB.drew
 replace hA := hA.drew
 replace hM := hM.drew
 replace hR := hR.drew
 replace q3 := q3.below (bdrew _)
 replace hV := hV.drew
 clear c18 c19 c20 c21 c22 c23 c24 c25 c26 c27 c28 c29
 refine wp_region_noPanic ?_
 refine wp_region_held_drew (S := fun w' => w'.cell? ⟨X4, 0, none⟩ = some (.bool s3) ∧ w'.cell? ⟨X4, 1, none⟩ = some (.slice A3 L3 C3) ∧ w'.cell? ⟨X4, 2, none⟩ = some (.slice D3 M3 E3) ∧ w'.cell? ⟨g, 0, none⟩ = some (.bool true) ∧ w'.cell? ⟨g, 1, none⟩ = some (.slice A1 L1 C1) ∧ w'.cell? ⟨g, 2, none⟩ = some (.slice D1 M1 E1) ∧ w'.cell? ⟨g + 1, 0, none⟩ = some (.bool s2) ∧ w'.cell? ⟨g + 1, 1, none⟩ = some (.slice A2 L2 C2) ∧ w'.cell? ⟨g + 1, 2, none⟩ = some (.slice D2 M2 E2)) (by kernel_rfl) ?_ (fun hHeld => ?_)
 · exact ⟨hV.cell 0, hV.cell 1, hV.cell 2, hA.cell 0, hA.cell 1, hA.cell 2, hM.cell 0, hM.cell 1, hM.cell 2⟩
 obtain ⟨wd2_1, hwd⟩ : ∃ q, q = V4.drew := ⟨_, rfl⟩
 rw [← hwd] at hB hA hM hR q3 hV hHeld ⊢
 clear hwd
 refine tkH 0 rfl (v := ?v89) ?h89 ?r89
 case h89 => intro w hSw; (try dsimp only at hSw); go_simp; try (with_reducible rfl)
 refine tkH 1 rfl (v := ?v90) ?h90 ?r90
 case h90 => intro w hSw; (try dsimp only at hSw); go_simp; try (with_reducible rfl)
 refine tkH 2 rfl (v := ?v91) ?h91 ?r91
 case h91 => intro w hSw; (try dsimp only at hSw); go_simp; try (with_reducible rfl)
 refine tkH 3 rfl (v := ?v92) ?h92 ?r92
 case h92 => intro w hSw; (try dsimp only at hSw); go_simp; try (with_reducible rfl)
 refine tkH 4 rfl (v := ?v93) ?h93 ?r93
 case h93 => intro w hSw; (try dsimp only at hSw); go_simp; try (with_reducible rfl)
 refine tkH 5 rfl (v := ?v94) ?h94 ?r94
 case h94 => intro w hSw; (try dsimp only at hSw); go_simp; try (with_reducible rfl)
 refine tkH 6 rfl (v := ?v95) ?h95 ?r95
 case h95 => intro w hSw; (try dsimp only at hSw); go_simp; try (with_reducible rfl)
 refine tkH 7 rfl (v := ?v96) ?h96 ?r96
 case h96 => intro w hSw; (try dsimp only at hSw); go_simp; try (with_reducible rfl)
 try simp only [Act.put, lay1, lay2, lay3, lay4, lay5, lay6]
 refine wpAnyH_ready (rs := [8]) (by kernel_rfl) (by simp) (AllReadyH.cons rfl (fun K hK => ?_) AllReadyH.nil)
 go_simp
 refine (hO _).mono ?_
 rintro e u2_1 ⟨v4, rfl, q4, b2_1⟩
 replace hA := hA.below b2_1 hA.lt
 replace hM := hM.below b2_1 hM.lt
 replace hR := hR.below b2_1 hR.lt
 replace q3 := q3.below b2_1
 replace hV := hV.below b2_1 hV.lt
 replace hB := hB.trans (b2_1.mono hB.size)
 obtain ⟨s4, A4, L4, C4, D4, M4, E4, rfl, q4⟩ := q4.opn
 go_wp2_with fail
 refine hK.out _ _ ?_ (fun hHeld => ?_)
 · exact ⟨hV.cell 0, hV.cell 1, hV.cell 2, hA.cell 0, hA.cell 1, hA.cell 2, hM.cell 0, hM.cell 1, hM.cell 2⟩
 clear hK K
 try simp only [Act.put, lay1, lay2, lay3, lay4, lay5, lay6]
 refine wpAnyH_ready (rs := [9]) (by kernel_rfl) (by simp) (AllReadyH.cons rfl (fun K hK => ?_) AllReadyH.nil)
 go_simp
 refine (hC _ _ _ q3 q4).mono ?_
 rintro e u2_2 ⟨rfl, b2_2⟩
 replace hA := hA.below b2_2 hA.lt
 replace hM := hM.below b2_2 hM.lt
 replace hR := hR.below b2_2 hR.lt
 replace q3 := q3.below b2_2
 replace hV := hV.below b2_2 hV.lt
 replace q4 := q4.below b2_2
 replace hB := hB.trans (b2_2.mono hB.size)
 go_wp2_with fail
 refine hK.out _ _ ?_ (fun hHeld => ?_)
 · exact ⟨hV.cell 0, hV.cell 1, hV.cell 2, hA.cell 0, hA.cell 1, hA.cell 2, hM.cell 0, hM.cell 1, hM.cell 2⟩
 clear hK K
 refine tkH 10 rfl (v := ?v97) ?h97 ?r97
 case h97 => intro w hSw; (try dsimp only at hSw); go_simp; try (with_reducible rfl)
 refine tkH 11 rfl (v := ?v98) ?h98 ?r98
 case h98 => intro w hSw; (try dsimp only at hSw); go_simp; try (with_reducible rfl)
 refine tkH 12 rfl (v := ?v99) ?h99 ?r99
 case h99 => intro w hSw; (try dsimp only at hSw); go_simp; try (with_reducible rfl)
 refine tkH 13 rfl (v := ?v100) ?h100 ?r100
 case h100 => intro w hSw; (try dsimp only at hSw); go_simp; try (with_reducible rfl)
 refine tkH 14 rfl (v := ?v101) ?h101 ?r101
 case h101 => intro w hSw; (try dsimp only at hSw); go_simp; try (with_reducible rfl)
 refine tkH 15 rfl (v := ?v102) ?h102 ?r102
 case h102 => intro w hSw; (try dsimp only at hSw); go_simp; try (with_reducible rfl)
 refine tkH 16 rfl (v := ?v103) ?h103 ?r103
 case h103 => intro w hSw; (try dsimp only at hSw); go_simp; try (with_reducible rfl)
 refine tkH 17 rfl (v := ?v104) ?h104 ?r104
 case h104 => intro w hSw; (try dsimp only at hSw); go_simp; try (with_reducible rfl)
 refine tkS 18 rfl ?_
 refine tkS 19 rfl ?_
 refine tkS 20 rfl ?_
 refine tkH 21 rfl (v := ?v108) ?h108 ?r108
 case h108 => intro w hSw; (try dsimp only at hSw); go_simp; try (with_reducible rfl)
 try simp only [Act.put, lay1, lay2, lay3, lay4, lay5, lay6]
 try dsimp only
 try simp only [Act.put, lay1, lay2, lay3, lay4, lay5, lay6]
 refine wpAnyH_done (by kernel_rfl) ?_ _
 refine NoPanic.normal ?_
 skip
 obtain ⟨c30, c31, c32⟩ := hA.q3
 obtain ⟨c33, c34, c35⟩ := hM.q3
 obtain ⟨c36, c37, c38⟩ := hR.q3
 obtain ⟨c39, c40, c41⟩ := hV.q3
 obtain ⟨p1, p2, p3⟩ := put3 hR (.bool false) (.slice none 0 0) (.slice none 0 0) (by simp [noU]) hB (by omega)
 have rc0 : World.cell? _ ⟨g + 1 + 1, 0, none⟩ = some (.bool false) := hR.cell 0
 have rf0 := hR.frozen 0
 have rc1 : World.cell? _ ⟨g + 1 + 1, 1, none⟩ = some (.slice none 0 0) := hR.cell 1
 have rf1 := hR.frozen 1
 have rc2 : World.cell? _ ⟨g + 1 + 1, 2, none⟩ = some (.slice none 0 0) := hR.cell 2
 have rf2 := hR.frozen 2
 have P := Lib.hid (And.intro trivial (And.intro p3 p1.cells3))
 clear p1 p2 p3
 go_wp2_with fail
 obtain ⟨P1, P2, P3, P4, P5⟩ := P.out
 exact bodyPost_ret (v := .tuple #[.agg #[.bool false, .slice none 0 0, .slice none 0 0], .int .i64 1]) (by simp [results, Tryz.results18, go_sem, P3, P4, P5]) rfl ⟨rfl, P2⟩
set_option maxRecDepth 100000 in
set_option maxHeartbeats 8000000 in
theorem rnext_b4 (beta f : Int) (va vm : Value) (a m : Rat) (w : World) (ha : IsQ w va a) (hm : IsQ w vm m) (hf0 : 0 ≤ f) (hf1 : f ≤ 40) (hb : In64 beta) (hb0 : ¬ beta < 0) (hb1 : ¬ (2 : Int) ^ f.toNat < beta) (na : decide (a.num < 0) = false) (nm : decide (m.num < 0) = true) :
   Calls Tryz.prog 18 #[.int .i64 beta, .int .i64 f, va, vm] w fun e w' => e = .returned (.tuple #[.agg #[.bool false, .slice none 0 0, .slice none 0 0], .int .i64 1]) ∧ Below w.heap.size w w' := by
 obtain ⟨s1, A1, L1, C1, D1, M1, E1, rfl, q1⟩ := ha.opn
 obtain ⟨s2, A2, L2, C2, D2, M2, E2, rfl, q2⟩ := hm.opn
 obtain ⟨k, rfl⟩ : ∃ k : Nat, f = (k : Int) := ⟨f.toNat, by omega⟩
 have hk : k ≤ 40 := by omega
 have hN := fun w => rrat_any beta k w hk hb
 have sx := sz_man hb hk
 have hO := fun w => rqof_any 1 (by omega) (by omega) w
 have hC := fun u v w hu hv => rqcmp_any u v (mkRat beta (2 ^ k)) ((1 : Int) : Rat) w hu hv (sx.more (by omega)) ((BQ.int (by unfold W64; omega)).more (by omega))
 have e1 : (((1 : Int) : Rat)) = 1 := rfl
 rw [e1] at hO hC
 rw [Int.toNat_natCast] at hb1
 rw [cmp_one] at hC
 have hcc : decide (0 < cmpI beta ((2 : Int) ^ k)) = false := decide_eq_false (by unfold cmpI; (repeat' split) <;> omega)
 generalize cmpI beta ((2 : Int) ^ k) = cc at *
 clear e1 sx hb1
 generalize mkRat beta (2 ^ k) = x at *
 have hd0 : decide (beta < 0) = false := decide_eq_false hb0
 obtain rfl : s1 = false := by rw [q1.parts.1]; exact na
 obtain rfl : s2 = true := by rw [q2.parts.1]; exact nm
 clear na nm
 clear hb hf0 hf1 hb0
 clear ha hm q1 q2
 obtain ⟨g, hg⟩ : ∃ g, g = w.heap.size := ⟨_, rfl⟩
 obtain ⟨Y0, eY0, hA, bY0⟩ := box1 w 32 #[.bool false, .slice A1 L1 C1, .slice D1 M1 E1]
 have zY0 : Y0.heap.size = g + 1 := by rw [eY0, World.size_alloc, ← hg]
 rw [← hg] at hA
 have hB := bY0
 obtain ⟨Y1, eY1, hM, bY1⟩ := box1 Y0 32 #[.bool true, .slice A2 L2 C2, .slice D2 M2 E2]
 have zY1 : Y1.heap.size = g + 1 + 1 := by rw [eY1, World.size_alloc, zY0]
 rw [zY0] at hM
 replace hA := hA.below bY1 hA.lt
 replace hB := hB.trans (bY1.mono hB.size)
 obtain ⟨Y2, eY2, hR, bY2⟩ := box1 Y1 32 #[.bool false, .slice none 0 0, .slice none 0 0]
 have zY2 : Y2.heap.size = g + 1 + 1 + 1 := by rw [eY2, World.size_alloc, zY1]
 rw [zY1] at hR
 replace hA := hA.below bY2 hA.lt
 replace hM := hM.below bY2 hM.lt
 replace hB := hB.trans (bY2.mono hB.size)
 have hgw : w.heap.size ≤ g := by omega
 have EY := Lib.hid (And.intro hg (And.intro eY0 (And.intro eY1 eY2)))
 clear hg eY0 zY0 eY1 zY1 eY2 zY2
 obtain ⟨c0, c1, c2⟩ := hA.q3
 obtain ⟨c3, c4, c5⟩ := hM.q3
 obtain ⟨c6, c7, c8⟩ := hR.q3
 go_enter Tryz.func18, Tryz.ntmps18
 go_wp2_with fail
 rw [← EY.out.2.1, ← EY.out.2.2.1, ← EY.out.2.2.2, ← EY.out.1]
 refine (hN _).mono ?_
 rintro e w2 ⟨v3, rfl, q3, b2⟩
 replace hA := hA.below b2 hA.lt
 replace hM := hM.below b2 hM.lt
 replace hR := hR.below b2 hR.lt
 replace hB := hB.trans (b2.mono hB.size)
 clear c0 c1 c2 c3 c4 c5 c6 c7 c8
 obtain ⟨c9, c10, c11⟩ := hA.q3
 obtain ⟨c12, c13, c14⟩ := hM.q3
 obtain ⟨c15, c16, c17⟩ := hR.q3
 obtain ⟨s3, A3, L3, C3, D3, M3, E3, rfl, q3⟩ := q3.opn
 obtain ⟨V4, eV, hV, bV4⟩ := box1 w2 32 #[.bool s3, .slice A3 L3 C3, .slice D3 M3 E3]
 obtain ⟨X4, eX⟩ : ∃ X, X = w2.heap.size := ⟨_, rfl⟩
 rw [← eX] at hV
 have lX4 : w.heap.size ≤ X4 := by rw [eX]; exact hB.size
 have dX4_hA : g ≠ X4 := by have := hA.lt; omega
 have dX4_hM : g + 1 ≠ X4 := by have := hM.lt; omega
 have dX4_hR : g + 1 + 1 ≠ X4 := by have := hR.lt; omega
 have EV4 := Lib.hid (And.intro eV eX)
 clear eV eX
 go_upto_region 2 with fail
 rw [← EV4.out.1, ← EV4.out.2]
 replace hA := hA.below bV4 hA.lt
 replace hM := hM.below bV4 hM.lt
 replace hR := hR.below bV4 hR.lt
 replace q3 := q3.below bV4
 replace hB := hB.trans (bV4.mono hB.size)
 clear c9 c10 c11 c12 c13 c14 c15 c16 c17
 obtain ⟨c18, c19, c20⟩ := hA.q3
 obtain ⟨c21, c22, c23⟩ := hM.q3
 obtain ⟨c24, c25, c26⟩ := hR.q3
 obtain ⟨c27, c28, c29⟩ := hV.q3
 replace hB := hB.drew
 replace hA := hA.drew
 replace hM := hM.drew
 replace hR := hR.drew
 replace q3 := q3.below (bdrew _)
 replace hV := hV.drew
 clear c18 c19 c20 c21 c22 c23 c24 c25 c26 c27 c28 c29
 refine wp_region_noPanic ?_
 refine wp_region_held_drew (S := fun w' => w'.cell? ⟨X4, 0, none⟩ = some (.bool s3) ∧ w'.cell? ⟨X4, 1, none⟩ = some (.slice A3 L3 C3) ∧ w'.cell? ⟨X4, 2, none⟩ = some (.slice D3 M3 E3) ∧ w'.cell? ⟨g, 0, none⟩ = some (.bool false) ∧ w'.cell? ⟨g, 1, none⟩ = some (.slice A1 L1 C1) ∧ w'.cell? ⟨g, 2, none⟩ = some (.slice D1 M1 E1) ∧ w'.cell? ⟨g + 1, 0, none⟩ = some (.bool true) ∧ w'.cell? ⟨g + 1, 1, none⟩ = some (.slice A2 L2 C2) ∧ w'.cell? ⟨g + 1, 2, none⟩ = some (.slice D2 M2 E2)) (by kernel_rfl) ?_ (fun hHeld => ?_)
 · exact ⟨hV.cell 0, hV.cell 1, hV.cell 2, hA.cell 0, hA.cell 1, hA.cell 2, hM.cell 0, hM.cell 1, hM.cell 2⟩
 obtain ⟨wd2_1, hwd⟩ : ∃ q, q = V4.drew := ⟨_, rfl⟩
 rw [← hwd] at hB hA hM hR q3 hV hHeld ⊢
 clear hwd
 refine tkH 0 rfl (v := ?v109) ?h109 ?r109
 case h109 => intro w hSw; (try dsimp only at hSw); go_simp; try (with_reducible rfl)
 refine tkH 1 rfl (v := ?v110) ?h110 ?r110
 case h110 => intro w hSw; (try dsimp only at hSw); go_simp; try (with_reducible rfl)
 refine tkH 2 rfl (v := ?v111) ?h111 ?r111
 case h111 => intro w hSw; (try dsimp only at hSw); go_simp; try (with_reducible rfl)
 refine tkH 3 rfl (v := ?v112) ?h112 ?r112
 case h112 => intro w hSw; (try dsimp only at hSw); go_simp; try (with_reducible rfl)
 refine tkH 4 rfl (v := ?v113) ?h113 ?r113
 case h113 => intro w hSw; (try dsimp only at hSw); go_simp; try (with_reducible rfl)
 refine tkH 5 rfl (v := ?v114) ?h114 ?r114
 case h114 => intro w hSw; (try dsimp only at hSw); go_simp; try (with_reducible rfl)
 refine tkH 6 rfl (v := ?v115) ?h115 ?r115
 case h115 => intro w hSw; (try dsimp only at hSw); go_simp; try (with_reducible rfl)
 refine tkH 7 rfl (v := ?v116) ?h116 ?r116
 case h116 => intro w hSw; (try dsimp only at hSw); go_simp; try (with_reducible rfl)
 try simp only [Act.put, lay1, lay2, lay3, lay4, lay5, lay6]
 refine wpAnyH_ready (rs := [8]) (by kernel_rfl) (by simp) (AllReadyH.cons rfl (fun K hK => ?_) AllReadyH.nil)
 go_simp
 refine (hO _).mono ?_
 rintro e u2_1 ⟨v4, rfl, q4, b2_1⟩
 replace hA := hA.below b2_1 hA.lt
 replace hM := hM.below b2_1 hM.lt
 replace hR := hR.below b2_1 hR.lt
 replace q3 := q3.below b2_1
 replace hV := hV.below b2_1 hV.lt
 replace hB := hB.trans (b2_1.mono hB.size)
 obtain ⟨s4, A4, L4, C4, D4, M4, E4, rfl, q4⟩ := q4.opn
 go_wp2_with fail
 refine hK.out _ _ ?_ (fun hHeld => ?_)
 · exact ⟨hV.cell 0, hV.cell 1, hV.cell 2, hA.cell 0, hA.cell 1, hA.cell 2, hM.cell 0, hM.cell 1, hM.cell 2⟩
 clear hK K
 try simp only [Act.put, lay1, lay2, lay3, lay4, lay5, lay6]
 refine wpAnyH_ready (rs := [9]) (by kernel_rfl) (by simp) (AllReadyH.cons rfl (fun K hK => ?_) AllReadyH.nil)
 go_simp
 refine (hC _ _ _ q3 q4).mono ?_
 rintro e u2_2 ⟨rfl, b2_2⟩
 replace hA := hA.below b2_2 hA.lt
 replace hM := hM.below b2_2 hM.lt
 replace hR := hR.below b2_2 hR.lt
 replace q3 := q3.below b2_2
 replace hV := hV.below b2_2 hV.lt
 replace q4 := q4.below b2_2
 replace hB := hB.trans (b2_2.mono hB.size)
 go_wp2_with fail
 refine hK.out _ _ ?_ (fun hHeld => ?_)
 · exact ⟨hV.cell 0, hV.cell 1, hV.cell 2, hA.cell 0, hA.cell 1, hA.cell 2, hM.cell 0, hM.cell 1, hM.cell 2⟩
 clear hK K
 refine tkH 10 rfl (v := ?v117) ?h117 ?r117
 case h117 => intro w hSw; (try dsimp only at hSw); go_simp; try (with_reducible rfl)
 refine tkH 11 rfl (v := ?v118) ?h118 ?r118
 case h118 => intro w hSw; (try dsimp only at hSw); go_simp; try (with_reducible rfl)
 refine tkH 12 rfl (v := ?v119) ?h119 ?r119
 case h119 => intro w hSw; (try dsimp only at hSw); go_simp; try (with_reducible rfl)
 refine tkH 13 rfl (v := ?v120) ?h120 ?r120
 case h120 => intro w hSw; (try dsimp only at hSw); go_simp; try (with_reducible rfl)
 refine tkH 14 rfl (v := ?v121) ?h121 ?r121
 case h121 => intro w hSw; (try dsimp only at hSw); go_simp; try (with_reducible rfl)
 refine tkH 15 rfl (v := ?v122) ?h122 ?r122
 case h122 => intro w hSw; (try dsimp only at hSw); go_simp; try (with_reducible rfl)
 refine tkH 16 rfl (v := ?v123) ?h123 ?r123
 case h123 => intro w hSw; (try dsimp only at hSw); go_simp; try (with_reducible rfl)
 refine tkH 17 rfl (v := ?v124) ?h124 ?r124
 case h124 => intro w hSw; (try dsimp only at hSw); go_simp; try (with_reducible rfl)
 refine tkH 18 rfl (v := ?v125) ?h125 ?r125
 case h125 => intro w hSw; (try dsimp only at hSw); go_simp; try (with_reducible rfl)
 refine tkH 19 rfl (v := ?v126) ?h126 ?r126
 case h126 => intro w hSw; (try dsimp only at hSw); go_simp; try (with_reducible rfl)
 refine tkH 20 rfl (v := ?v127) ?h127 ?r127
 case h127 => intro w hSw; (try dsimp only at hSw); go_simp; try (with_reducible rfl)
 refine tkH 21 rfl (v := ?v128) ?h128 ?r128
 case h128 => intro w hSw; (try dsimp only at hSw); go_simp; try (with_reducible rfl)
 try simp only [Act.put, lay1, lay2, lay3, lay4, lay5, lay6]
 try dsimp only
 try simp only [Act.put, lay1, lay2, lay3, lay4, lay5, lay6]
 refine wpAnyH_done (by kernel_rfl) ?_ _
 refine NoPanic.normal ?_
 skip
 obtain ⟨c30, c31, c32⟩ := hA.q3
 obtain ⟨c33, c34, c35⟩ := hM.q3
 obtain ⟨c36, c37, c38⟩ := hR.q3
 obtain ⟨c39, c40, c41⟩ := hV.q3
 obtain ⟨p1, p2, p3⟩ := put3 hR (.bool false) (.slice none 0 0) (.slice none 0 0) (by simp [noU]) hB (by omega)
 have rc0 : World.cell? _ ⟨g + 1 + 1, 0, none⟩ = some (.bool false) := hR.cell 0
 have rf0 := hR.frozen 0
 have rc1 : World.cell? _ ⟨g + 1 + 1, 1, none⟩ = some (.slice none 0 0) := hR.cell 1
 have rf1 := hR.frozen 1
 have rc2 : World.cell? _ ⟨g + 1 + 1, 2, none⟩ = some (.slice none 0 0) := hR.cell 2
 have rf2 := hR.frozen 2
 have P := Lib.hid (And.intro trivial (And.intro p3 p1.cells3))
 clear p1 p2 p3
 go_wp2_with fail
 obtain ⟨P1, P2, P3, P4, P5⟩ := P.out
 exact bodyPost_ret (v := .tuple #[.agg #[.bool false, .slice none 0 0, .slice none 0 0], .int .i64 1]) (by simp [results, Tryz.results18, go_sem, P3, P4, P5]) rfl ⟨rfl, P2⟩
theorem rnext_bad (beta f : Int) (va vm : Value) (a m : Rat) (w : World) (ha : IsQ w va a) (hm : IsQ w vm m) (hb : In64 beta) (h : nextBad beta f a m = true) :
   Calls Tryz.prog 18 #[.int .i64 beta, .int .i64 f, va, vm] w fun e w' => e = .returned (.tuple #[.agg #[.bool false, .slice none 0 0, .slice none 0 0], .int .i64 1]) ∧ Below w.heap.size w w' := by
 unfold nextBad at h
 by_cases h0 : f < 0 ∨ 40 < f
 · exact rnext_b0 beta f va vm a m w ha hm h0
 by_cases h1 : beta < 0
 · exact rnext_b1 beta f va vm a m w ha hm (by omega) (by omega) hb h1
 by_cases h2 : (2 : Int) ^ f.toNat < beta
 · exact rnext_b2 beta f va vm a m w ha hm (by omega) (by omega) hb h1 h2
 by_cases h3 : a.num < 0
 · exact rnext_b3 beta f va vm a m w ha hm (by omega) (by omega) hb h1 h2 (decide_eq_true h3)
 by_cases h4 : m.num < 0
 · exact rnext_b4 beta f va vm a m w ha hm (by omega) (by omega) hb h1 h2 (decide_eq_false h3) (decide_eq_true h4)
 · rw [decide_eq_false h0, decide_eq_false h1, decide_eq_false h2, decide_eq_false h3, decide_eq_false h4] at h
   exact absurd h (by simp)
end Go.Proofs.YtdnjdglekifhpaaGreat
namespace Go.Proofs.YtdnjdglekifhpaaGreat
open Go.RowKit
theorem cellLE {n : Nat} {w w' : World} {a : Addr} {v : Value} (h : Below n w w') (hn : a.block < n) (hc : w.cell? a = some v) : w'.cell? a = some v := (h.cell hn).trans hc
end Go.Proofs.YtdnjdglekifhpaaGreat
