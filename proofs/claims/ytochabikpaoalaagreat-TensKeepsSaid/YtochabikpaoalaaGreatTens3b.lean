/- Package tens: Right, the loop over the blocks. Printed by gen_tens3.py. -/
import Derived.Test.YtochabikpaoalaaGreatTens3
namespace Go.Proofs.YtochabikpaoalaaGreat
open Go.RowKit
attribute [local go_sem ↓] Go.wp_at_zero Go.wp_at_succ
set_option maxRecDepth 100000 in
set_option maxHeartbeats 8000000 in
theorem tright_main (v : Value) (k z m o n : Int) (bs : List Bk) (w : World) (h : IsSt w v (k, z, m, o, n, bs)) (hm : mayB k z m o = true) (hn : 0 ≤ n) (hn2 : n ≤ 4096) (hb : (bs.length : Int) = (partN z.toNat n.toNat : Nat)) (hlb : LongB bs) :
    Calls Tryz.prog 11 #[v] w fun e w' => e = .returned (.bool (okTo k z m o n bs bs.length)) ∧ Below w.heap.size w w' := by
  obtain ⟨x, rfl, hx⟩ := h
  simp only at hx ⊢
  obtain ⟨A, c, rfl, hc1, hc2⟩ := hx.len
  have hM := fun w => tmay_any k z m o w
  rw [hm] at hM
  have n1 : decide (n < 0) = false := decide_eq_false (by omega)
  have n2 : decide (4096 < n) = false := decide_eq_false (by omega)
  obtain ⟨Z, rfl, z1, z2⟩ := size_of hm
  obtain ⟨N, rfl⟩ := Int.eq_ofNat_of_zero_le hn
  have hN : N ≤ 4096 := by omega
  obtain ⟨s1, hs1⟩ : ∃ s1 : Int, s1 = (N : Int) + (Z : Int) := ⟨_, rfl⟩
  obtain ⟨s2, hs2⟩ : ∃ s2 : Int, s2 = s1 - 1 := ⟨_, rfl⟩
  obtain ⟨q, hq⟩ : ∃ q : Int, q = ((partN Z N : Nat) : Int) := ⟨_, rfl⟩
  have hw1 : IntKind.i64.wrap ((N : Int) + (Z : Int)) = s1 := by rw [IntKind.wrap_i64, hs1]; omega
  have hw2 : IntKind.i64.wrap (s1 - 1) = s2 := by rw [IntKind.wrap_i64, hs2, hs1]; omega
  have hq0 : s2.tdiv (Z : Int) = q := by
    rw [hq, hs2, hs1, partN_int z1, Int.tdiv_eq_ediv_of_nonneg (by omega)]
  have hqb : 0 ≤ q ∧ q ≤ 4096 := by rw [hq]; have := partN_le (n := N) z1; omega
  have hw3 : IntKind.i64.wrap (s2.tdiv (Z : Int)) = q := by rw [hq0, IntKind.wrap_i64]; omega
  have hz0 : ((Z : Int) == 0) = false := by rw [beq_eq_false_iff_ne]; omega
  have hz3 : (Z : Int) ≠ 0 := by omega
  have hz4 : ¬ Z = 0 := by omega
  rw [Int.toNat_natCast, Int.toNat_natCast, ← hq] at hb
  have hbe : ((bs.length : Int) != q) = false := by rw [hb]; simp
  have hbe2 : decide ((bs.length : Int) = q) = true := decide_eq_true hb
  have hbn : bs.length ≤ 4096 := by omega
  clear hq hb
  clear hs1 hs2 hq0 hqb
  obtain ⟨W0, hW, hT, hB⟩ := box2 w 26 23 #[.int .i64 k, .int .i64 Z, .int .i64 m, .int .i64 o, .int .i64 N, .slice A bs.length c] #[.int .i64 k, .int .i64 Z, .int .i64 m, .int .i64 o]
  obtain ⟨g, hg⟩ : ∃ g, g = w.heap.size := ⟨_, rfl⟩
  have hW' := Lib.hid (And.intro hW hg)
  rw [← hg] at hT
  have hgw : w.heap.size ≤ g := by omega
  clear hW hg
  obtain ⟨hX, hKp⟩ := hT
  replace hx := hx.below hB
  obtain ⟨c1_hX_0, c1_hX_1, c1_hX_2, c1_hX_3, c1_hX_4, c1_hX_5⟩ := hX.cells6
  obtain ⟨c1_hKp_0, c1_hKp_1, c1_hKp_2, c1_hKp_3⟩ := hKp.quad
  go_enter Tryz.func11, Tryz.ntmps11
  go_upto_region 2 with fail
  rw [← hW'.out.1, ← hW'.out.2]
  refine wp_region_noPanic ?_
  refine wp_region_held_drew (S := fun w' => w'.cell? ⟨g, 0, none⟩ = some (.int .i64 k) ∧ w'.cell? ⟨g, 1, none⟩ = some (.int .i64 Z) ∧ w'.cell? ⟨g, 2, none⟩ = some (.int .i64 m) ∧ w'.cell? ⟨g, 3, none⟩ = some (.int .i64 o) ∧ w'.cell? ⟨g, 4, none⟩ = some (.int .i64 N) ∧ w'.cell? ⟨g, 5, none⟩ = some (.slice A bs.length c) ∧ w'.cell? ⟨g + 1, 0, none⟩ = some (.int .i64 k) ∧ w'.cell? ⟨g + 1, 1, none⟩ = some (.int .i64 Z) ∧ w'.cell? ⟨g + 1, 2, none⟩ = some (.int .i64 m) ∧ w'.cell? ⟨g + 1, 3, none⟩ = some (.int .i64 o)) (by kernel_rfl) ?_ (fun hHeld => ?_)
  · exact ⟨(hX.below (by first | assumption | exact bdrew _ | exact Below.refl _ _) hX.lt).cell 0, (hX.below (by first | assumption | exact bdrew _ | exact Below.refl _ _) hX.lt).cell 1, (hX.below (by first | assumption | exact bdrew _ | exact Below.refl _ _) hX.lt).cell 2, (hX.below (by first | assumption | exact bdrew _ | exact Below.refl _ _) hX.lt).cell 3, (hX.below (by first | assumption | exact bdrew _ | exact Below.refl _ _) hX.lt).cell 4, (hX.below (by first | assumption | exact bdrew _ | exact Below.refl _ _) hX.lt).cell 5, (hKp.below (by first | assumption | exact bdrew _ | exact Below.refl _ _) hKp.lt).cell 0, (hKp.below (by first | assumption | exact bdrew _ | exact Below.refl _ _) hKp.lt).cell 1, (hKp.below (by first | assumption | exact bdrew _ | exact Below.refl _ _) hKp.lt).cell 2, (hKp.below (by first | assumption | exact bdrew _ | exact Below.refl _ _) hKp.lt).cell 3⟩
  refine wpAnyH_take (i := 0) (v := ?av0) rfl (by kernel_rfl) (by kernel_rfl) (by kernel_rfl) (fun _ _ _ h => h) (Or.inl ⟨by kernel_rfl, ?ahy0⟩) (by assumption) ?arest0
  case ahy0 => (intro w hSw; (try dsimp only at hSw); go_simp; try (with_reducible rfl))
  try simp only [Act.put, lay1, lay2, lay3, lay4, lay5, lay6]
  refine wpAnyH_ready (rs := [1]) (by kernel_rfl) (by simp) ?_
  refine AllReadyH.cons rfl (fun K hK => ?_) AllReadyH.nil
  go_simp
  refine (hM _).mono ?_
  rintro e w1 ⟨rfl, b1⟩
  have b1 := bstep (bdrew W0) b1
  go_wp2_with fail
  refine hK.out _ _ ?_ (fun hHeld => ?_)
  · exact ⟨(hX.below (by first | assumption | exact bdrew _ | exact Below.refl _ _) hX.lt).cell 0, (hX.below (by first | assumption | exact bdrew _ | exact Below.refl _ _) hX.lt).cell 1, (hX.below (by first | assumption | exact bdrew _ | exact Below.refl _ _) hX.lt).cell 2, (hX.below (by first | assumption | exact bdrew _ | exact Below.refl _ _) hX.lt).cell 3, (hX.below (by first | assumption | exact bdrew _ | exact Below.refl _ _) hX.lt).cell 4, (hX.below (by first | assumption | exact bdrew _ | exact Below.refl _ _) hX.lt).cell 5, (hKp.below (by first | assumption | exact bdrew _ | exact Below.refl _ _) hKp.lt).cell 0, (hKp.below (by first | assumption | exact bdrew _ | exact Below.refl _ _) hKp.lt).cell 1, (hKp.below (by first | assumption | exact bdrew _ | exact Below.refl _ _) hKp.lt).cell 2, (hKp.below (by first | assumption | exact bdrew _ | exact Below.refl _ _) hKp.lt).cell 3⟩
  clear hK K
  try simp only [Act.put, lay1, lay2, lay3, lay4, lay5, lay6]
  refine wpAnyH_take (i := 2) (v := ?av2) rfl (by kernel_rfl) (by kernel_rfl) (by kernel_rfl) (fun _ _ _ h => h) (Or.inl ⟨by kernel_rfl, ?ahy2⟩) (by assumption) ?arest2
  case ahy2 => (intro w hSw; (try dsimp only at hSw); go_simp; try (with_reducible rfl))
  try simp only [Act.put, lay1, lay2, lay3, lay4, lay5, lay6]
  refine wpAnyH_take (i := 3) (v := ?av3) rfl (by kernel_rfl) (by kernel_rfl) (by kernel_rfl) (fun _ _ _ h => h) (Or.inl ⟨by kernel_rfl, ?ahy3⟩) (by assumption) ?arest3
  case ahy3 => (intro w hSw; (try dsimp only at hSw); go_simp; try (with_reducible rfl))
  try simp only [Act.put, lay1, lay2, lay3, lay4, lay5, lay6]
  refine wpAnyH_take (i := 4) (v := ?av4) rfl (by kernel_rfl) (by kernel_rfl) (by kernel_rfl) (fun _ _ _ h => h) (Or.inl ⟨by kernel_rfl, ?ahy4⟩) (by assumption) ?arest4
  case ahy4 => (intro w hSw; (try dsimp only at hSw); go_simp; try (with_reducible rfl))
  try simp only [Act.put, lay1, lay2, lay3, lay4, lay5, lay6]
  refine wpAnyH_take (i := 5) (v := ?av5) rfl (by kernel_rfl) (by kernel_rfl) (by kernel_rfl) (fun _ _ _ h => h) (Or.inl ⟨by kernel_rfl, ?ahy5⟩) (by assumption) ?arest5
  case ahy5 => (intro w hSw; (try dsimp only at hSw); go_simp; try (with_reducible rfl))
  try simp only [Act.put, lay1, lay2, lay3, lay4, lay5, lay6]
  refine wpAnyH_take (i := 6) (v := ?av6) rfl (by kernel_rfl) (by kernel_rfl) (by kernel_rfl) (fun _ _ _ h => h) (Or.inl ⟨by kernel_rfl, ?ahy6⟩) (by assumption) ?arest6
  case ahy6 => (intro w hSw; (try dsimp only at hSw); go_simp; try (with_reducible rfl))
  try simp only [Act.put, lay1, lay2, lay3, lay4, lay5, lay6]
  refine wpAnyH_take (i := 7) (v := ?av7) rfl (by kernel_rfl) (by kernel_rfl) (by kernel_rfl) (fun _ _ _ h => h) (Or.inl ⟨by kernel_rfl, ?ahy7⟩) (by assumption) ?arest7
  case ahy7 => (intro w hSw; (try dsimp only at hSw); go_simp; try (with_reducible rfl))
  try simp only [Act.put, lay1, lay2, lay3, lay4, lay5, lay6]
  refine wpAnyH_take (i := 8) (v := ?av8) rfl (by kernel_rfl) (by kernel_rfl) (by kernel_rfl) (fun _ _ _ h => h) (Or.inl ⟨by kernel_rfl, ?ahy8⟩) (by assumption) ?arest8
  case ahy8 => (intro w hSw; (try dsimp only at hSw); go_simp; try (with_reducible rfl))
  try simp only [Act.put, lay1, lay2, lay3, lay4, lay5, lay6]
  refine wpAnyH_take (i := 9) (v := ?av9) rfl (by kernel_rfl) (by kernel_rfl) (by kernel_rfl) (fun _ _ _ h => h) (Or.inl ⟨by kernel_rfl, ?ahy9⟩) (by assumption) ?arest9
  case ahy9 => (intro w hSw; (try dsimp only at hSw); go_simp; try (with_reducible rfl))
  try simp only [Act.put, lay1, lay2, lay3, lay4, lay5, lay6]
  refine wpAnyH_take (i := 10) (v := ?av10) rfl (by kernel_rfl) (by kernel_rfl) (by kernel_rfl) (fun _ _ _ h => h) (Or.inl ⟨by kernel_rfl, ?ahy10⟩) (by assumption) ?arest10
  case ahy10 => (intro w hSw; (try dsimp only at hSw); go_simp; try (with_reducible rfl))
  try simp only [Act.put, lay1, lay2, lay3, lay4, lay5, lay6]
  refine wpAnyH_take (i := 11) (v := ?av11) rfl (by kernel_rfl) (by kernel_rfl) (by kernel_rfl) (fun _ _ _ h => h) (Or.inl ⟨by kernel_rfl, ?ahy11⟩) (by assumption) ?arest11
  case ahy11 => (intro w hSw; (try dsimp only at hSw); go_simp; try (with_reducible rfl))
  try simp only [Act.put, lay1, lay2, lay3, lay4, lay5, lay6]
  refine wpAnyH_take (i := 12) (v := ?av12) rfl (by kernel_rfl) (by kernel_rfl) (by kernel_rfl) (fun _ _ _ h => h) (Or.inl ⟨by kernel_rfl, ?ahy12⟩) (by assumption) ?arest12
  case ahy12 => (intro w hSw; (try dsimp only at hSw); go_simp; try (with_reducible rfl))
  try simp only [Act.put, lay1, lay2, lay3, lay4, lay5, lay6]
  refine wpAnyH_take (i := 13) (v := ?av13) rfl (by kernel_rfl) (by kernel_rfl) (by kernel_rfl) (fun _ _ _ h => h) (Or.inl ⟨by kernel_rfl, ?ahy13⟩) (by assumption) ?arest13
  case ahy13 => (intro w hSw; (try dsimp only at hSw); go_simp; try (with_reducible rfl))
  try simp only [Act.put, lay1, lay2, lay3, lay4, lay5, lay6]
  refine wpAnyH_take (i := 14) (v := ?av14) rfl (by kernel_rfl) (by kernel_rfl) (by kernel_rfl) (fun _ _ _ h => h) (Or.inl ⟨by kernel_rfl, ?ahy14⟩) (by assumption) ?arest14
  case ahy14 => (intro w hSw; (try dsimp only at hSw); go_simp; try (with_reducible rfl))
  try simp only [Act.put, lay1, lay2, lay3, lay4, lay5, lay6]
  refine wpAnyH_take (i := 15) (v := ?av15) rfl (by kernel_rfl) (by kernel_rfl) (by kernel_rfl) (fun _ _ _ h => h) (Or.inl ⟨by kernel_rfl, ?ahy15⟩) (by assumption) ?arest15
  case ahy15 => (intro w hSw; (try dsimp only at hSw); go_simp; try (with_reducible rfl))
  try simp only [Act.put, lay1, lay2, lay3, lay4, lay5, lay6]
  refine wpAnyH_take (i := 16) (v := ?av16) rfl (by kernel_rfl) (by kernel_rfl) (by kernel_rfl) (fun _ _ _ h => h) (Or.inl ⟨by kernel_rfl, ?ahy16⟩) (by assumption) ?arest16
  case ahy16 => (intro w hSw; (try dsimp only at hSw); go_simp; try (with_reducible rfl))
  try simp only [Act.put, lay1, lay2, lay3, lay4, lay5, lay6]
  refine wpAnyH_take (i := 17) (v := ?av17) rfl (by kernel_rfl) (by kernel_rfl) (by kernel_rfl) (fun _ _ _ h => h) (Or.inl ⟨by kernel_rfl, ?ahy17⟩) (by assumption) ?arest17
  case ahy17 => (intro w hSw; (try dsimp only at hSw); go_simp; try (with_reducible rfl))
  try simp only [Act.put, lay1, lay2, lay3, lay4, lay5, lay6]
  refine wpAnyH_take (i := 18) (v := ?av18) rfl (by kernel_rfl) (by kernel_rfl) (by kernel_rfl) (fun _ _ _ h => h) (Or.inl ⟨by kernel_rfl, ?ahy18⟩) (by assumption) ?arest18
  case ahy18 => (intro w hSw; (try dsimp only at hSw); go_simp; try (with_reducible rfl))
  try simp only [Act.put, lay1, lay2, lay3, lay4, lay5, lay6]
  refine wpAnyH_take (i := 19) (v := ?av19) rfl (by kernel_rfl) (by kernel_rfl) (by kernel_rfl) (fun _ _ _ h => h) (Or.inl ⟨by kernel_rfl, ?ahy19⟩) (by assumption) ?arest19
  case ahy19 => (intro w hSw; (try dsimp only at hSw); go_simp; try (with_reducible rfl))
  try simp only [Act.put, lay1, lay2, lay3, lay4, lay5, lay6]
  refine wpAnyH_take (i := 20) (v := ?av20) rfl (by kernel_rfl) (by kernel_rfl) (by kernel_rfl) (fun _ _ _ h => h) (Or.inl ⟨by kernel_rfl, ?ahy20⟩) (by assumption) ?arest20
  case ahy20 => (intro w hSw; (try dsimp only at hSw); go_simp; try (with_reducible rfl))
  try simp only [Act.put, lay1, lay2, lay3, lay4, lay5, lay6]
  refine wpAnyH_take (i := 21) (v := ?av21) rfl (by kernel_rfl) (by kernel_rfl) (by kernel_rfl) (fun _ _ _ h => h) (Or.inl ⟨by kernel_rfl, ?ahy21⟩) (by assumption) ?arest21
  case ahy21 => (intro w hSw; (try dsimp only at hSw); go_simp; try (with_reducible rfl))
  try simp only [Act.put, lay1, lay2, lay3, lay4, lay5, lay6]
  refine wpAnyH_take (i := 22) (v := ?av22) rfl (by kernel_rfl) (by kernel_rfl) (by kernel_rfl) (fun _ _ _ h => h) (Or.inl ⟨by kernel_rfl, ?ahy22⟩) (by assumption) ?arest22
  case ahy22 => (intro w hSw; (try dsimp only at hSw); go_simp; try (with_reducible rfl))
  try simp only [Act.put, lay1, lay2, lay3, lay4, lay5, lay6]
  refine wpAnyH_take (i := 23) (v := ?av23) rfl (by kernel_rfl) (by kernel_rfl) (by kernel_rfl) (fun _ _ _ h => h) (Or.inl ⟨by kernel_rfl, ?ahy23⟩) (by assumption) ?arest23
  case ahy23 => (intro w hSw; (try dsimp only at hSw); go_simp; try (with_reducible rfl))
  try simp only [Act.put, lay1, lay2, lay3, lay4, lay5, lay6]
  refine wpAnyH_take (i := 24) (v := ?av24) rfl (by kernel_rfl) (by kernel_rfl) (by kernel_rfl) (fun _ _ _ h => h) (Or.inl ⟨by kernel_rfl, ?ahy24⟩) (by assumption) ?arest24
  case ahy24 => (intro w hSw; (try dsimp only at hSw); go_simp; try (with_reducible rfl))
  try simp only [Act.put, lay1, lay2, lay3, lay4, lay5, lay6]
  refine wpAnyH_take (i := 25) (v := ?av25) rfl (by kernel_rfl) (by kernel_rfl) (by kernel_rfl) (fun _ _ _ h => h) (Or.inl ⟨by kernel_rfl, ?ahy25⟩) (by assumption) ?arest25
  case ahy25 => (intro w hSw; (try dsimp only at hSw); go_simp; try (with_reducible rfl))
  try simp only [Act.put, lay1, lay2, lay3, lay4, lay5, lay6]
  try dsimp only
  try simp only [Act.put, lay1, lay2, lay3, lay4, lay5, lay6]
  refine wpAnyH_take (i := 26) (v := ?av26) rfl (by kernel_rfl) (by kernel_rfl) (by kernel_rfl) (fun _ _ _ h => h) (Or.inl ⟨by kernel_rfl, ?ahy26⟩) (by assumption) ?arest26
  case ahy26 => (intro w hSw; (try dsimp only at hSw); go_simp; try (with_reducible rfl))
  try simp only [Act.put, lay1, lay2, lay3, lay4, lay5, lay6]
  try dsimp only
  try simp only [Act.put, lay1, lay2, lay3, lay4, lay5, lay6]
  refine wpAnyH_take (i := 27) (v := ?av27) rfl (by kernel_rfl) (by kernel_rfl) (by kernel_rfl) (fun _ _ _ h => h) (Or.inl ⟨by kernel_rfl, ?ahy27⟩) (by assumption) ?arest27
  case ahy27 => (intro w hSw; (try dsimp only at hSw); go_simp; try (with_reducible rfl))
  try simp only [Act.put, lay1, lay2, lay3, lay4, lay5, lay6]
  try dsimp only
  try simp only [Act.put, lay1, lay2, lay3, lay4, lay5, lay6]
  refine wpAnyH_done (by kernel_rfl) ?_ _
  refine NoPanic.normal ?_
  replace hx := hx.below b1
  replace hX := hX.below b1 hX.lt
  replace hKp := hKp.below b1 hKp.lt
  replace hB := hB.trans (b1.mono hB.size)
  clear c1_hX_0 c1_hX_1 c1_hX_2 c1_hX_3 c1_hX_4 c1_hX_5 c1_hKp_0 c1_hKp_1 c1_hKp_2 c1_hKp_3
  obtain ⟨c2_hX_0, c2_hX_1, c2_hX_2, c2_hX_3, c2_hX_4, c2_hX_5⟩ := hX.cells6
  obtain ⟨c2_hKp_0, c2_hKp_1, c2_hKp_2, c2_hKp_3⟩ := hKp.quad
  go_wp2
  have hc1x := hB
  go_loopw [41] (fun i wr => ∃ j : Nat, i = .int .i64 j ∧ j ≤ bs.length ∧ Hid (okTo k Z m o N bs j = true) ∧ Below w1.heap.size w1 wr) (fun i _ => bs.length - (intOf i).toNat)
  case atStart => exact ⟨0, rfl, by omega, Lib.hid rfl, Below.refl _ _⟩
  case round =>
    obtain ⟨j, rfl, hj, hok, bl⟩ := hrel
    replace hx := hx.below bl
    replace hX := hX.below bl hX.lt
    replace hKp := hKp.below bl hKp.lt
    replace hB := hB.trans (bl.mono hB.size)
    clear c2_hX_0 c2_hX_1 c2_hX_2 c2_hX_3 c2_hX_4 c2_hX_5 c2_hKp_0 c2_hKp_1 c2_hKp_2 c2_hKp_3
    obtain ⟨c3_hX_0, c3_hX_1, c3_hX_2, c3_hX_3, c3_hX_4, c3_hX_5⟩ := hX.cells6
    obtain ⟨c3_hKp_0, c3_hKp_1, c3_hKp_2, c3_hKp_3⟩ := hKp.quad
    by_cases hlt : j < bs.length
    · obtain ⟨ad, d1, k1, sc, cs, wd, a1, a2, e1, _, hat, x0, x1, x2, x3, hy, hi1⟩ := hx.at_ hlt
      obtain ⟨rfl, _, rfl⟩ := Value.slice.inj e1
      obtain ⟨P1, Q1, rfl, _, _⟩ := id hy.form
      obtain ⟨P2, Q2, rfl, _, _⟩ := id hi1.form
      have hg : bs[j]?.getD (0, 0, [], []) = (k1, sc, cs, wd) := by rw [hat]; rfl
      have HS := Lib.hid (show okTo k Z m o N bs (j + 1) = okAt k Z m o N (k1, sc, cs, wd) j by rw [okTo_succ, hok.out, Bool.true_and, hg])
      obtain ⟨l1, l2⟩ := hlb _ (mem_at hat)
      simp only at l1 l2
      have HAT := Lib.hid hat
      have i0 : (0 : Int) ≤ (j : Int) := by omega
      have i1 : (j : Int) < (bs.length : Int) := by omega
      have hjn : j ≤ 4096 := by omega
      obtain ⟨p, hp⟩ : ∃ p : Nat, p = j * Z := ⟨_, rfl⟩
      have hpb : p ≤ 16777216 := by rw [hp]; exact Nat.le_trans (Nat.mul_le_mul hjn z2) (by decide)
      have hp1 : IntKind.i64.wrap ((j : Int) * (Z : Int)) = (p : Int) := by rw [← Int.natCast_mul, ← hp, IntKind.wrap_i64]; omega
      obtain ⟨d, hd⟩ : ∃ d : Int, d = (N : Int) - (p : Int) := ⟨_, rfl⟩
      have hp2 : IntKind.i64.wrap ((N : Int) - (p : Int)) = d := by rw [hd, IntKind.wrap_i64]; omega
      have hg1 := fun w h => tgreat_any (.slice P2 wd.length Q2) wd w h
      have hR := fun v w h => bright_any v k1 sc cs wd w h (by omega) l2
      have hLn := fun v w h => blen_any v k1 sc cs wd w h (by omega) l2
      obtain ⟨top, htop⟩ : ∃ top : Int, top = if k1 = 4 then greatW wd else sc := ⟨_, rfl⟩
      have hSt := fun w => tstays_any k Z m o N top w
      obtain ⟨kk, hkk⟩ : ∃ kk : Int, kk = if staysB m o N top = true then 4 else k := ⟨_, rfl⟩
      obtain ⟨ln, hln⟩ : ∃ ln : Int, ln = (cs.length : Int) + wd.length := ⟨_, rfl⟩
      rw [← hln] at hLn
      have HOK := Lib.hid (show okAt k Z m o N (k1, sc, cs, wd) j = (blkR k1 sc cs wd && (decide (k1 = kk) && decide (ln = min (Z : Int) d))) by
        unfold okAt bkR bkLen
        simp only
        rw [← htop, ← hkk, hln, hd, hp]; push_cast; rfl)
      have hbk : IsBk wr (.agg #[.int .i64 k1, .int .i64 sc, .slice P1 cs.length Q1, .slice P2 wd.length Q2]) k1 sc cs wd := ⟨_, _, rfl, hy, hi1⟩
      clear hg hat hjn hp hpb hd hln hy
      have hBr := Below.refl wr.heap.size wr
      obtain ⟨V1, eV, hY, bV1⟩ := box1 wr 43 #[.int .i64 k1, .int .i64 sc, .slice P1 cs.length Q1, .slice P2 wd.length Q2]
      obtain ⟨X1, eX⟩ : ∃ X, X = wr.heap.size := ⟨_, rfl⟩
      rw [← eX] at hY
      have EV1 := Lib.hid (And.intro eV eX)
      clear eV eX
      go_upto_region 7 with fail
      rw [← EV1.out.1, ← EV1.out.2]
      replace hx := hx.below bV1
      replace hX := hX.below bV1 hX.lt
      replace hKp := hKp.below bV1 hKp.lt
      replace hbk := hbk.below bV1
      replace hi1 := hi1.below bV1
      replace hB := hB.trans (bV1.mono hB.size)
      clear c3_hX_0 c3_hX_1 c3_hX_2 c3_hX_3 c3_hX_4 c3_hX_5 c3_hKp_0 c3_hKp_1 c3_hKp_2 c3_hKp_3
      obtain ⟨c4_hX_0, c4_hX_1, c4_hX_2, c4_hX_3, c4_hX_4, c4_hX_5⟩ := hX.cells6
      obtain ⟨c4_hKp_0, c4_hKp_1, c4_hKp_2, c4_hKp_3⟩ := hKp.quad
      clear c4_hX_0 c4_hX_1 c4_hX_2 c4_hX_3 c4_hX_4 c4_hX_5 c4_hKp_0 c4_hKp_1 c4_hKp_2 c4_hKp_3
      obtain ⟨c5_hX_0, c5_hX_1, c5_hX_2, c5_hX_3, c5_hX_4, c5_hX_5⟩ := hX.cells6
      obtain ⟨c5_hKp_0, c5_hKp_1, c5_hKp_2, c5_hKp_3⟩ := hKp.quad
      obtain ⟨c5_hY_0, c5_hY_1, c5_hY_2, c5_hY_3⟩ := hY.quad
      replace hBr := bstep hBr bV1
      go_quiet (fail)
      have bq : Below V1.heap.size V1 (V1.drewN nq) := below_drewN (Below.refl _ _) nq
      replace hx := hx.below bq
      replace hX := hX.below bq hX.lt
      replace hKp := hKp.below bq hKp.lt
      replace hbk := hbk.below bq
      replace hi1 := hi1.below bq
      replace hY := hY.below bq hY.lt
      replace hB := hB.trans (bq.mono hB.size)
      clear c5_hX_0 c5_hX_1 c5_hX_2 c5_hX_3 c5_hX_4 c5_hX_5 c5_hKp_0 c5_hKp_1 c5_hKp_2 c5_hKp_3 c5_hY_0 c5_hY_1 c5_hY_2 c5_hY_3
      obtain ⟨c6_hX_0, c6_hX_1, c6_hX_2, c6_hX_3, c6_hX_4, c6_hX_5⟩ := hX.cells6
      obtain ⟨c6_hKp_0, c6_hKp_1, c6_hKp_2, c6_hKp_3⟩ := hKp.quad
      obtain ⟨c6_hY_0, c6_hY_1, c6_hY_2, c6_hY_3⟩ := hY.quad
      replace hBr := bstep hBr bq
      obtain ⟨V3, eV3⟩ : ∃ V3, V3 = V1.drewN nq := ⟨_, rfl⟩
      have EV3 := Lib.hid eV3
      rw [← eV3] at hx hbk hi1 hX hKp hY hB hBr
      clear c6_hX_0 c6_hX_1 c6_hX_2 c6_hX_3 c6_hX_4 c6_hX_5 c6_hKp_0 c6_hKp_1 c6_hKp_2 c6_hKp_3 c6_hY_0 c6_hY_1 c6_hY_2 c6_hY_3
      rw [← eV3]
      clear eV3 EV3 bq bV1
      obtain ⟨c7_hX_0, c7_hX_1, c7_hX_2, c7_hX_3, c7_hX_4, c7_hX_5⟩ := hX.cells6
      obtain ⟨c7_hKp_0, c7_hKp_1, c7_hKp_2, c7_hKp_3⟩ := hKp.quad
      obtain ⟨c7_hY_0, c7_hY_1, c7_hY_2, c7_hY_3⟩ := hY.quad
      by_cases hk4 : k1 = 4
      · have hk5 : (k1 == 4) = true := by rw [hk4]; rfl
        have hk6 : decide (k1 = 4) = true := decide_eq_true hk4
        rw [if_pos hk4] at htop
        have HT := Lib.hid htop
        rw [← htop] at hg1
        clear htop hk4
        go_wp2_with fail
        refine (hg1 _ hi1).mono ?_
        rintro e w8 ⟨rfl, rfl⟩
        go_wp2_with fail
        refine (hSt _).mono ?_
        rintro e w9 ⟨rfl, b9⟩
        replace hx := hx.below b9
        replace hX := hX.below b9 hX.lt
        replace hKp := hKp.below b9 hKp.lt
        replace hbk := hbk.below b9
        replace hi1 := hi1.below b9
        replace hY := hY.below b9 hY.lt
        replace hB := hB.trans (b9.mono hB.size)
        clear c7_hX_0 c7_hX_1 c7_hX_2 c7_hX_3 c7_hX_4 c7_hX_5 c7_hKp_0 c7_hKp_1 c7_hKp_2 c7_hKp_3 c7_hY_0 c7_hY_1 c7_hY_2 c7_hY_3
        obtain ⟨c8_hX_0, c8_hX_1, c8_hX_2, c8_hX_3, c8_hX_4, c8_hX_5⟩ := hX.cells6
        obtain ⟨c8_hKp_0, c8_hKp_1, c8_hKp_2, c8_hKp_3⟩ := hKp.quad
        obtain ⟨c8_hY_0, c8_hY_1, c8_hY_2, c8_hY_3⟩ := hY.quad
        replace hBr := bstep hBr b9
        generalize staysB m o (N : Int) top = sb at *
        rcases sb with _ | _
        · rw [if_neg (by decide)] at hkk
          replace hkk := hkk.symm
          subst hkk
          generalize blkR k1 sc cs wd = br at *
          go_upto_region 12 with fail
          rcases br with _ | _
          · have hres : okTo k Z m o N bs (j + 1) = false := by rw [HS.out, HOK.out]; rfl
            have HRES := Lib.hid (okTo_le hres (show j + 1 ≤ bs.length by omega))
            clear hres
            refine wp_region_noPanic ?_
            refine wp_region_held_drew (S := fun w' => w'.cell? ⟨X1, 0, none⟩ = some (.int .i64 k1) ∧ w'.cell? ⟨X1, 1, none⟩ = some (.int .i64 sc) ∧ w'.cell? ⟨X1, 2, none⟩ = some (.slice P1 cs.length Q1) ∧ w'.cell? ⟨X1, 3, none⟩ = some (.slice P2 wd.length Q2) ∧ w'.cell? ⟨g + 1, 1, none⟩ = some (.int .i64 Z) ∧ w'.cell? ⟨g, 4, none⟩ = some (.int .i64 N)) (by kernel_rfl) ?_ (fun hHeld => ?_)
            · exact ⟨(hY.below (by first | assumption | exact bdrew _) hY.lt).cell 0, (hY.below (by first | assumption | exact bdrew _) hY.lt).cell 1, (hY.below (by first | assumption | exact bdrew _) hY.lt).cell 2, (hY.below (by first | assumption | exact bdrew _) hY.lt).cell 3, (hKp.below (by first | assumption | exact bdrew _) hKp.lt).cell 1, (hX.below (by first | assumption | exact bdrew _) hX.lt).cell 4⟩
            refine wpAnyH_take (i := 0) (v := ?b1_v0) rfl (by kernel_rfl) (by kernel_rfl) (by kernel_rfl) (fun _ _ _ h => h) (Or.inl ⟨by kernel_rfl, ?b1_hy0⟩) (by assumption) ?b1_rest0
            case b1_hy0 => (intro w hSw; (try dsimp only at hSw); go_simp; try (with_reducible rfl))
            try simp only [Act.put, lay1, lay2, lay3, lay4, lay5, lay6]
            refine wpAnyH_ready (rs := [1]) (by kernel_rfl) (by simp) ?_
            refine AllReadyH.cons rfl (fun K hK => ?_) AllReadyH.nil
            go_simp
            refine (hR _ _ (hbk.below (bdrew _))).mono ?_
            rintro e u1 ⟨rfl, d1⟩
            have d1 := bstep (bdrew w9) d1
            go_wp2_with fail
            refine hK.out _ _ ?_ (fun hHeld => ?_)
            · exact ⟨(hY.below (by first | assumption | exact bdrew _) hY.lt).cell 0, (hY.below (by first | assumption | exact bdrew _) hY.lt).cell 1, (hY.below (by first | assumption | exact bdrew _) hY.lt).cell 2, (hY.below (by first | assumption | exact bdrew _) hY.lt).cell 3, (hKp.below (by first | assumption | exact bdrew _) hKp.lt).cell 1, (hX.below (by first | assumption | exact bdrew _) hX.lt).cell 4⟩
            clear hK K
            try simp only [Act.put, lay1, lay2, lay3, lay4, lay5, lay6]
            refine wpAnyH_take (i := 2) (v := ?b1_v2) rfl (by kernel_rfl) (by kernel_rfl) (by kernel_rfl) (fun _ _ _ h => h) (Or.inl ⟨by kernel_rfl, ?b1_hy2⟩) (by assumption) ?b1_rest2
            case b1_hy2 => (intro w hSw; (try dsimp only at hSw); go_simp; try (with_reducible rfl))
            try simp only [Act.put, lay1, lay2, lay3, lay4, lay5, lay6]
            refine wpAnyH_take (i := 3) (v := ?b1_v3) rfl (by kernel_rfl) (by kernel_rfl) (by kernel_rfl) (fun _ _ _ h => h) (Or.inl ⟨by kernel_rfl, ?b1_hy3⟩) (by assumption) ?b1_rest3
            case b1_hy3 => (intro w hSw; (try dsimp only at hSw); go_simp; try (with_reducible rfl))
            try simp only [Act.put, lay1, lay2, lay3, lay4, lay5, lay6]
            refine wpAnyH_take (i := 4) (v := undef) rfl (by kernel_rfl) (by kernel_rfl) (by kernel_rfl) (fun _ _ _ h => h) (Or.inr ⟨by kernel_rfl, rfl⟩) (by assumption) ?_
            try simp only [Act.put, lay1, lay2, lay3, lay4, lay5, lay6]
            refine wpAnyH_take (i := 5) (v := undef) rfl (by kernel_rfl) (by kernel_rfl) (by kernel_rfl) (fun _ _ _ h => h) (Or.inr ⟨by kernel_rfl, rfl⟩) (by assumption) ?_
            try simp only [Act.put, lay1, lay2, lay3, lay4, lay5, lay6]
            refine wpAnyH_take (i := 6) (v := undef) rfl (by kernel_rfl) (by kernel_rfl) (by kernel_rfl) (fun _ _ _ h => h) (Or.inr ⟨by kernel_rfl, rfl⟩) (by assumption) ?_
            try simp only [Act.put, lay1, lay2, lay3, lay4, lay5, lay6]
            refine wpAnyH_take (i := 7) (v := undef) rfl (by kernel_rfl) (by kernel_rfl) (by kernel_rfl) (fun _ _ _ h => h) (Or.inr ⟨by kernel_rfl, rfl⟩) (by assumption) ?_
            try simp only [Act.put, lay1, lay2, lay3, lay4, lay5, lay6]
            refine wpAnyH_take (i := 8) (v := ?b1_v8) rfl (by kernel_rfl) (by kernel_rfl) (by kernel_rfl) (fun _ _ _ h => h) (Or.inl ⟨by kernel_rfl, ?b1_hy8⟩) (by assumption) ?b1_rest8
            case b1_hy8 => (intro w hSw; (try dsimp only at hSw); go_simp; try (with_reducible rfl))
            try simp only [Act.put, lay1, lay2, lay3, lay4, lay5, lay6]
            refine wpAnyH_take (i := 9) (v := ?b1_v9) rfl (by kernel_rfl) (by kernel_rfl) (by kernel_rfl) (fun _ _ _ h => h) (Or.inl ⟨by kernel_rfl, ?b1_hy9⟩) (by assumption) ?b1_rest9
            case b1_hy9 => (intro w hSw; (try dsimp only at hSw); go_simp; try (with_reducible rfl))
            try simp only [Act.put, lay1, lay2, lay3, lay4, lay5, lay6]
            refine wpAnyH_take (i := 10) (v := undef) rfl (by kernel_rfl) (by kernel_rfl) (by kernel_rfl) (fun _ _ _ h => h) (Or.inr ⟨by kernel_rfl, rfl⟩) (by assumption) ?_
            try simp only [Act.put, lay1, lay2, lay3, lay4, lay5, lay6]
            refine wpAnyH_take (i := 11) (v := undef) rfl (by kernel_rfl) (by kernel_rfl) (by kernel_rfl) (fun _ _ _ h => h) (Or.inr ⟨by kernel_rfl, rfl⟩) (by assumption) ?_
            try simp only [Act.put, lay1, lay2, lay3, lay4, lay5, lay6]
            refine wpAnyH_take (i := 12) (v := undef) rfl (by kernel_rfl) (by kernel_rfl) (by kernel_rfl) (fun _ _ _ h => h) (Or.inr ⟨by kernel_rfl, rfl⟩) (by assumption) ?_
            try simp only [Act.put, lay1, lay2, lay3, lay4, lay5, lay6]
            refine wpAnyH_take (i := 13) (v := undef) rfl (by kernel_rfl) (by kernel_rfl) (by kernel_rfl) (fun _ _ _ h => h) (Or.inr ⟨by kernel_rfl, rfl⟩) (by assumption) ?_
            try simp only [Act.put, lay1, lay2, lay3, lay4, lay5, lay6]
            refine wpAnyH_take (i := 14) (v := undef) rfl (by kernel_rfl) (by kernel_rfl) (by kernel_rfl) (fun _ _ _ h => h) (Or.inr ⟨by kernel_rfl, rfl⟩) (by assumption) ?_
            try simp only [Act.put, lay1, lay2, lay3, lay4, lay5, lay6]
            refine wpAnyH_take (i := 15) (v := undef) rfl (by kernel_rfl) (by kernel_rfl) (by kernel_rfl) (fun _ _ _ h => h) (Or.inr ⟨by kernel_rfl, rfl⟩) (by assumption) ?_
            try simp only [Act.put, lay1, lay2, lay3, lay4, lay5, lay6]
            refine wpAnyH_take (i := 16) (v := undef) rfl (by kernel_rfl) (by kernel_rfl) (by kernel_rfl) (fun _ _ _ h => h) (Or.inr ⟨by kernel_rfl, rfl⟩) (by assumption) ?_
            try simp only [Act.put, lay1, lay2, lay3, lay4, lay5, lay6]
            refine wpAnyH_take (i := 17) (v := undef) rfl (by kernel_rfl) (by kernel_rfl) (by kernel_rfl) (fun _ _ _ h => h) (Or.inr ⟨by kernel_rfl, rfl⟩) (by assumption) ?_
            try simp only [Act.put, lay1, lay2, lay3, lay4, lay5, lay6]
            refine wpAnyH_take (i := 18) (v := undef) rfl (by kernel_rfl) (by kernel_rfl) (by kernel_rfl) (fun _ _ _ h => h) (Or.inr ⟨by kernel_rfl, rfl⟩) (by assumption) ?_
            try simp only [Act.put, lay1, lay2, lay3, lay4, lay5, lay6]
            refine wpAnyH_take (i := 19) (v := undef) rfl (by kernel_rfl) (by kernel_rfl) (by kernel_rfl) (fun _ _ _ h => h) (Or.inr ⟨by kernel_rfl, rfl⟩) (by assumption) ?_
            try simp only [Act.put, lay1, lay2, lay3, lay4, lay5, lay6]
            refine wpAnyH_take (i := 20) (v := undef) rfl (by kernel_rfl) (by kernel_rfl) (by kernel_rfl) (fun _ _ _ h => h) (Or.inr ⟨by kernel_rfl, rfl⟩) (by assumption) ?_
            try simp only [Act.put, lay1, lay2, lay3, lay4, lay5, lay6]
            refine wpAnyH_take (i := 21) (v := undef) rfl (by kernel_rfl) (by kernel_rfl) (by kernel_rfl) (fun _ _ _ h => h) (Or.inr ⟨by kernel_rfl, rfl⟩) (by assumption) ?_
            try simp only [Act.put, lay1, lay2, lay3, lay4, lay5, lay6]
            try dsimp only
            try simp only [Act.put, lay1, lay2, lay3, lay4, lay5, lay6]
            refine wpAnyH_take (i := 22) (v := undef) rfl (by kernel_rfl) (by kernel_rfl) (by kernel_rfl) (fun _ _ _ h => h) (Or.inr ⟨by kernel_rfl, rfl⟩) (by assumption) ?_
            try simp only [Act.put, lay1, lay2, lay3, lay4, lay5, lay6]
            try dsimp only
            try simp only [Act.put, lay1, lay2, lay3, lay4, lay5, lay6]
            refine wpAnyH_take (i := 23) (v := ?b1_v23) rfl (by kernel_rfl) (by kernel_rfl) (by kernel_rfl) (fun _ _ _ h => h) (Or.inl ⟨by kernel_rfl, ?b1_hy23⟩) (by assumption) ?b1_rest23
            case b1_hy23 => (intro w hSw; (try dsimp only at hSw); go_simp; try (with_reducible rfl))
            try simp only [Act.put, lay1, lay2, lay3, lay4, lay5, lay6]
            try dsimp only
            try simp only [Act.put, lay1, lay2, lay3, lay4, lay5, lay6]
            refine wpAnyH_done (by kernel_rfl) ?_ _
            refine NoPanic.normal ?_
            replace hx := hx.below d1
            replace hX := hX.below d1 hX.lt
            replace hKp := hKp.below d1 hKp.lt
            replace hbk := hbk.below d1
            replace hi1 := hi1.below d1
            replace hY := hY.below d1 hY.lt
            replace hB := hB.trans (d1.mono hB.size)
            clear c8_hX_0 c8_hX_1 c8_hX_2 c8_hX_3 c8_hX_4 c8_hX_5 c8_hKp_0 c8_hKp_1 c8_hKp_2 c8_hKp_3 c8_hY_0 c8_hY_1 c8_hY_2 c8_hY_3
            obtain ⟨c9_hX_0, c9_hX_1, c9_hX_2, c9_hX_3, c9_hX_4, c9_hX_5⟩ := hX.cells6
            obtain ⟨c9_hKp_0, c9_hKp_1, c9_hKp_2, c9_hKp_3⟩ := hKp.quad
            obtain ⟨c9_hY_0, c9_hY_1, c9_hY_2, c9_hY_3⟩ := hY.quad
            go_wp2
            go_ret
            exact ⟨congrArg (fun b => Ending.returned (Value.bool b)) HRES.out.symm, hB⟩
          · by_cases hke : k1 = k
            · by_cases hle : ln = min (Z : Int) d
              · have h1 : (k1 != k) = false := by rw [hke]; simp
                have h1' : decide (k1 = k) = true := decide_eq_true hke
                have h2 : (ln != min (Z : Int) d) = false := by rw [hle]; simp
                have h2' : decide (ln = min (Z : Int) d) = true := decide_eq_true hle
                have hres : okTo k Z m o N bs (j + 1) = true := by rw [HS.out, HOK.out, h1', h2']; rfl
                have HRES := Lib.hid hres
                clear hres hke hle
                refine wp_region_noPanic ?_
                refine wp_region_held_drew (S := fun w' => w'.cell? ⟨X1, 0, none⟩ = some (.int .i64 k1) ∧ w'.cell? ⟨X1, 1, none⟩ = some (.int .i64 sc) ∧ w'.cell? ⟨X1, 2, none⟩ = some (.slice P1 cs.length Q1) ∧ w'.cell? ⟨X1, 3, none⟩ = some (.slice P2 wd.length Q2) ∧ w'.cell? ⟨g + 1, 1, none⟩ = some (.int .i64 Z) ∧ w'.cell? ⟨g, 4, none⟩ = some (.int .i64 N)) (by kernel_rfl) ?_ (fun hHeld => ?_)
                · exact ⟨(hY.below (by first | assumption | exact bdrew _) hY.lt).cell 0, (hY.below (by first | assumption | exact bdrew _) hY.lt).cell 1, (hY.below (by first | assumption | exact bdrew _) hY.lt).cell 2, (hY.below (by first | assumption | exact bdrew _) hY.lt).cell 3, (hKp.below (by first | assumption | exact bdrew _) hKp.lt).cell 1, (hX.below (by first | assumption | exact bdrew _) hX.lt).cell 4⟩
                refine wpAnyH_take (i := 0) (v := ?b2_v0) rfl (by kernel_rfl) (by kernel_rfl) (by kernel_rfl) (fun _ _ _ h => h) (Or.inl ⟨by kernel_rfl, ?b2_hy0⟩) (by assumption) ?b2_rest0
                case b2_hy0 => (intro w hSw; (try dsimp only at hSw); go_simp; try (with_reducible rfl))
                try simp only [Act.put, lay1, lay2, lay3, lay4, lay5, lay6]
                refine wpAnyH_ready (rs := [1]) (by kernel_rfl) (by simp) ?_
                refine AllReadyH.cons rfl (fun K hK => ?_) AllReadyH.nil
                go_simp
                refine (hR _ _ (hbk.below (bdrew _))).mono ?_
                rintro e u1 ⟨rfl, d1⟩
                have d1 := bstep (bdrew w9) d1
                go_wp2_with fail
                refine hK.out _ _ ?_ (fun hHeld => ?_)
                · exact ⟨(hY.below (by first | assumption | exact bdrew _) hY.lt).cell 0, (hY.below (by first | assumption | exact bdrew _) hY.lt).cell 1, (hY.below (by first | assumption | exact bdrew _) hY.lt).cell 2, (hY.below (by first | assumption | exact bdrew _) hY.lt).cell 3, (hKp.below (by first | assumption | exact bdrew _) hKp.lt).cell 1, (hX.below (by first | assumption | exact bdrew _) hX.lt).cell 4⟩
                clear hK K
                try simp only [Act.put, lay1, lay2, lay3, lay4, lay5, lay6]
                refine wpAnyH_take (i := 2) (v := ?b2_v2) rfl (by kernel_rfl) (by kernel_rfl) (by kernel_rfl) (fun _ _ _ h => h) (Or.inl ⟨by kernel_rfl, ?b2_hy2⟩) (by assumption) ?b2_rest2
                case b2_hy2 => (intro w hSw; (try dsimp only at hSw); go_simp; try (with_reducible rfl))
                try simp only [Act.put, lay1, lay2, lay3, lay4, lay5, lay6]
                refine wpAnyH_take (i := 3) (v := ?b2_v3) rfl (by kernel_rfl) (by kernel_rfl) (by kernel_rfl) (fun _ _ _ h => h) (Or.inl ⟨by kernel_rfl, ?b2_hy3⟩) (by assumption) ?b2_rest3
                case b2_hy3 => (intro w hSw; (try dsimp only at hSw); go_simp; try (with_reducible rfl))
                try simp only [Act.put, lay1, lay2, lay3, lay4, lay5, lay6]
                refine wpAnyH_take (i := 4) (v := ?b2_v4) rfl (by kernel_rfl) (by kernel_rfl) (by kernel_rfl) (fun _ _ _ h => h) (Or.inl ⟨by kernel_rfl, ?b2_hy4⟩) (by assumption) ?b2_rest4
                case b2_hy4 => (intro w hSw; (try dsimp only at hSw); go_simp; try (with_reducible rfl))
                try simp only [Act.put, lay1, lay2, lay3, lay4, lay5, lay6]
                refine wpAnyH_take (i := 5) (v := ?b2_v5) rfl (by kernel_rfl) (by kernel_rfl) (by kernel_rfl) (fun _ _ _ h => h) (Or.inl ⟨by kernel_rfl, ?b2_hy5⟩) (by assumption) ?b2_rest5
                case b2_hy5 => (intro w hSw; (try dsimp only at hSw); go_simp; try (with_reducible rfl))
                try simp only [Act.put, lay1, lay2, lay3, lay4, lay5, lay6]
                refine wpAnyH_take (i := 6) (v := ?b2_v6) rfl (by kernel_rfl) (by kernel_rfl) (by kernel_rfl) (fun _ _ _ h => h) (Or.inl ⟨by kernel_rfl, ?b2_hy6⟩) (by assumption) ?b2_rest6
                case b2_hy6 => (intro w hSw; (try dsimp only at hSw); go_simp; try (with_reducible rfl))
                try simp only [Act.put, lay1, lay2, lay3, lay4, lay5, lay6]
                refine wpAnyH_take (i := 7) (v := ?b2_v7) rfl (by kernel_rfl) (by kernel_rfl) (by kernel_rfl) (fun _ _ _ h => h) (Or.inl ⟨by kernel_rfl, ?b2_hy7⟩) (by assumption) ?b2_rest7
                case b2_hy7 => (intro w hSw; (try dsimp only at hSw); go_simp; try (with_reducible rfl))
                try simp only [Act.put, lay1, lay2, lay3, lay4, lay5, lay6]
                refine wpAnyH_take (i := 8) (v := ?b2_v8) rfl (by kernel_rfl) (by kernel_rfl) (by kernel_rfl) (fun _ _ _ h => h) (Or.inl ⟨by kernel_rfl, ?b2_hy8⟩) (by assumption) ?b2_rest8
                case b2_hy8 => (intro w hSw; (try dsimp only at hSw); go_simp; try (with_reducible rfl))
                try simp only [Act.put, lay1, lay2, lay3, lay4, lay5, lay6]
                refine wpAnyH_take (i := 9) (v := ?b2_v9) rfl (by kernel_rfl) (by kernel_rfl) (by kernel_rfl) (fun _ _ _ h => h) (Or.inl ⟨by kernel_rfl, ?b2_hy9⟩) (by assumption) ?b2_rest9
                case b2_hy9 => (intro w hSw; (try dsimp only at hSw); go_simp; try (with_reducible rfl))
                try simp only [Act.put, lay1, lay2, lay3, lay4, lay5, lay6]
                refine wpAnyH_take (i := 10) (v := ?b2_v10) rfl (by kernel_rfl) (by kernel_rfl) (by kernel_rfl) (fun _ _ _ h => h) (Or.inl ⟨by kernel_rfl, ?b2_hy10⟩) (by assumption) ?b2_rest10
                case b2_hy10 => (intro w hSw; (try dsimp only at hSw); go_simp; try (with_reducible rfl))
                try simp only [Act.put, lay1, lay2, lay3, lay4, lay5, lay6]
                refine wpAnyH_take (i := 12) (v := ?b2_v12) rfl (by kernel_rfl) (by kernel_rfl) (by kernel_rfl) (fun _ _ _ h => h) (Or.inl ⟨by kernel_rfl, ?b2_hy12⟩) (by assumption) ?b2_rest12
                case b2_hy12 => (intro w hSw; (try dsimp only at hSw); go_simp; try (with_reducible rfl))
                try simp only [Act.put, lay1, lay2, lay3, lay4, lay5, lay6]
                refine wpAnyH_take (i := 13) (v := ?b2_v13) rfl (by kernel_rfl) (by kernel_rfl) (by kernel_rfl) (fun _ _ _ h => h) (Or.inl ⟨by kernel_rfl, ?b2_hy13⟩) (by assumption) ?b2_rest13
                case b2_hy13 => (intro w hSw; (try dsimp only at hSw); go_simp; try (with_reducible rfl))
                try simp only [Act.put, lay1, lay2, lay3, lay4, lay5, lay6]
                refine wpAnyH_take (i := 14) (v := ?b2_v14) rfl (by kernel_rfl) (by kernel_rfl) (by kernel_rfl) (fun _ _ _ h => h) (Or.inl ⟨by kernel_rfl, ?b2_hy14⟩) (by assumption) ?b2_rest14
                case b2_hy14 => (intro w hSw; (try dsimp only at hSw); go_simp; try (with_reducible rfl))
                try simp only [Act.put, lay1, lay2, lay3, lay4, lay5, lay6]
                refine wpAnyH_take (i := 15) (v := ?b2_v15) rfl (by kernel_rfl) (by kernel_rfl) (by kernel_rfl) (fun _ _ _ h => h) (Or.inl ⟨by kernel_rfl, ?b2_hy15⟩) (by assumption) ?b2_rest15
                case b2_hy15 => (intro w hSw; (try dsimp only at hSw); go_simp; try (with_reducible rfl))
                try simp only [Act.put, lay1, lay2, lay3, lay4, lay5, lay6]
                refine wpAnyH_take (i := 16) (v := ?b2_v16) rfl (by kernel_rfl) (by kernel_rfl) (by kernel_rfl) (fun _ _ _ h => h) (Or.inl ⟨by kernel_rfl, ?b2_hy16⟩) (by assumption) ?b2_rest16
                case b2_hy16 => (intro w hSw; (try dsimp only at hSw); go_simp; try (with_reducible rfl))
                try simp only [Act.put, lay1, lay2, lay3, lay4, lay5, lay6]
                refine wpAnyH_take (i := 17) (v := ?b2_v17) rfl (by kernel_rfl) (by kernel_rfl) (by kernel_rfl) (fun _ _ _ h => h) (Or.inl ⟨by kernel_rfl, ?b2_hy17⟩) (by assumption) ?b2_rest17
                case b2_hy17 => (intro w hSw; (try dsimp only at hSw); go_simp; try (with_reducible rfl))
                try simp only [Act.put, lay1, lay2, lay3, lay4, lay5, lay6]
                refine wpAnyH_take (i := 18) (v := ?b2_v18) rfl (by kernel_rfl) (by kernel_rfl) (by kernel_rfl) (fun _ _ _ h => h) (Or.inl ⟨by kernel_rfl, ?b2_hy18⟩) (by assumption) ?b2_rest18
                case b2_hy18 => (intro w hSw; (try dsimp only at hSw); go_simp; try (with_reducible rfl))
                try simp only [Act.put, lay1, lay2, lay3, lay4, lay5, lay6]
                refine wpAnyH_take (i := 19) (v := ?b2_v19) rfl (by kernel_rfl) (by kernel_rfl) (by kernel_rfl) (fun _ _ _ h => h) (Or.inl ⟨by kernel_rfl, ?b2_hy19⟩) (by assumption) ?b2_rest19
                case b2_hy19 => (intro w hSw; (try dsimp only at hSw); go_simp; try (with_reducible rfl))
                try simp only [Act.put, lay1, lay2, lay3, lay4, lay5, lay6]
                refine wpAnyH_take (i := 20) (v := ?b2_v20) rfl (by kernel_rfl) (by kernel_rfl) (by kernel_rfl) (fun _ _ _ h => h) (Or.inl ⟨by kernel_rfl, ?b2_hy20⟩) (by assumption) ?b2_rest20
                case b2_hy20 => (intro w hSw; (try dsimp only at hSw); go_simp; try (with_reducible rfl))
                try simp only [Act.put, lay1, lay2, lay3, lay4, lay5, lay6]
                refine wpAnyH_take (i := 21) (v := ?b2_v21) rfl (by kernel_rfl) (by kernel_rfl) (by kernel_rfl) (fun _ _ _ h => h) (Or.inl ⟨by kernel_rfl, ?b2_hy21⟩) (by assumption) ?b2_rest21
                case b2_hy21 => (intro w hSw; (try dsimp only at hSw); go_simp; try (with_reducible rfl))
                try simp only [Act.put, lay1, lay2, lay3, lay4, lay5, lay6]
                refine wpAnyH_ready (rs := [11]) (by kernel_rfl) (by simp) ?_
                refine AllReadyH.cons rfl (fun K hK => ?_) AllReadyH.nil
                go_simp
                refine (hLn _ _ (hbk.below d1)).mono ?_
                rintro e u2 ⟨rfl, d2⟩
                have d2 := bstep d1 d2
                go_wp2_with fail
                refine hK.out _ _ ?_ (fun hHeld => ?_)
                · exact ⟨(hY.below (by first | assumption | exact bdrew _) hY.lt).cell 0, (hY.below (by first | assumption | exact bdrew _) hY.lt).cell 1, (hY.below (by first | assumption | exact bdrew _) hY.lt).cell 2, (hY.below (by first | assumption | exact bdrew _) hY.lt).cell 3, (hKp.below (by first | assumption | exact bdrew _) hKp.lt).cell 1, (hX.below (by first | assumption | exact bdrew _) hX.lt).cell 4⟩
                clear hK K
                try simp only [Act.put, lay1, lay2, lay3, lay4, lay5, lay6]
                try dsimp only
                try simp only [Act.put, lay1, lay2, lay3, lay4, lay5, lay6]
                refine wpAnyH_take (i := 22) (v := ?b2_v22) rfl (by kernel_rfl) (by kernel_rfl) (by kernel_rfl) (fun _ _ _ h => h) (Or.inl ⟨by kernel_rfl, ?b2_hy22⟩) (by assumption) ?b2_rest22
                case b2_hy22 => (intro w hSw; (try dsimp only at hSw); go_simp; try (with_reducible rfl))
                try simp only [Act.put, lay1, lay2, lay3, lay4, lay5, lay6]
                try dsimp only
                try simp only [Act.put, lay1, lay2, lay3, lay4, lay5, lay6]
                refine wpAnyH_take (i := 23) (v := ?b2_v23) rfl (by kernel_rfl) (by kernel_rfl) (by kernel_rfl) (fun _ _ _ h => h) (Or.inl ⟨by kernel_rfl, ?b2_hy23⟩) (by assumption) ?b2_rest23
                case b2_hy23 => (intro w hSw; (try dsimp only at hSw); go_simp; try (with_reducible rfl))
                try simp only [Act.put, lay1, lay2, lay3, lay4, lay5, lay6]
                try dsimp only
                try simp only [Act.put, lay1, lay2, lay3, lay4, lay5, lay6]
                refine wpAnyH_done (by kernel_rfl) ?_ _
                refine NoPanic.normal ?_
                replace hx := hx.below d2
                replace hX := hX.below d2 hX.lt
                replace hKp := hKp.below d2 hKp.lt
                replace hbk := hbk.below d2
                replace hi1 := hi1.below d2
                replace hY := hY.below d2 hY.lt
                replace hB := hB.trans (d2.mono hB.size)
                clear c8_hX_0 c8_hX_1 c8_hX_2 c8_hX_3 c8_hX_4 c8_hX_5 c8_hKp_0 c8_hKp_1 c8_hKp_2 c8_hKp_3 c8_hY_0 c8_hY_1 c8_hY_2 c8_hY_3
                obtain ⟨c9_hX_0, c9_hX_1, c9_hX_2, c9_hX_3, c9_hX_4, c9_hX_5⟩ := hX.cells6
                obtain ⟨c9_hKp_0, c9_hKp_1, c9_hKp_2, c9_hKp_3⟩ := hKp.quad
                obtain ⟨c9_hY_0, c9_hY_1, c9_hY_2, c9_hY_3⟩ := hY.quad
                go_wp2
                exact ⟨⟨j + 1, by go_num, by omega, HRES, bl.trans ((show Below wr.heap.size wr _ from bstep hBr d2).mono bl.size)⟩, by simp [intOf]; omega⟩
              · have h1 : (k1 != k) = false := by rw [hke]; simp
                have h1' : decide (k1 = k) = true := decide_eq_true hke
                have h2 : (ln != min (Z : Int) d) = true := by rw [bne_iff_ne]; exact hle
                have h2' : decide (ln = min (Z : Int) d) = false := decide_eq_false hle
                have hres : okTo k Z m o N bs (j + 1) = false := by rw [HS.out, HOK.out, h1', h2']; rfl
                have HRES := Lib.hid hres
                clear hres hke hle
                refine wp_region_noPanic ?_
                refine wp_region_held_drew (S := fun w' => w'.cell? ⟨X1, 0, none⟩ = some (.int .i64 k1) ∧ w'.cell? ⟨X1, 1, none⟩ = some (.int .i64 sc) ∧ w'.cell? ⟨X1, 2, none⟩ = some (.slice P1 cs.length Q1) ∧ w'.cell? ⟨X1, 3, none⟩ = some (.slice P2 wd.length Q2) ∧ w'.cell? ⟨g + 1, 1, none⟩ = some (.int .i64 Z) ∧ w'.cell? ⟨g, 4, none⟩ = some (.int .i64 N)) (by kernel_rfl) ?_ (fun hHeld => ?_)
                · exact ⟨(hY.below (by first | assumption | exact bdrew _) hY.lt).cell 0, (hY.below (by first | assumption | exact bdrew _) hY.lt).cell 1, (hY.below (by first | assumption | exact bdrew _) hY.lt).cell 2, (hY.below (by first | assumption | exact bdrew _) hY.lt).cell 3, (hKp.below (by first | assumption | exact bdrew _) hKp.lt).cell 1, (hX.below (by first | assumption | exact bdrew _) hX.lt).cell 4⟩
                refine wpAnyH_take (i := 0) (v := ?b3_v0) rfl (by kernel_rfl) (by kernel_rfl) (by kernel_rfl) (fun _ _ _ h => h) (Or.inl ⟨by kernel_rfl, ?b3_hy0⟩) (by assumption) ?b3_rest0
                case b3_hy0 => (intro w hSw; (try dsimp only at hSw); go_simp; try (with_reducible rfl))
                try simp only [Act.put, lay1, lay2, lay3, lay4, lay5, lay6]
                refine wpAnyH_ready (rs := [1]) (by kernel_rfl) (by simp) ?_
                refine AllReadyH.cons rfl (fun K hK => ?_) AllReadyH.nil
                go_simp
                refine (hR _ _ (hbk.below (bdrew _))).mono ?_
                rintro e u1 ⟨rfl, d1⟩
                have d1 := bstep (bdrew w9) d1
                go_wp2_with fail
                refine hK.out _ _ ?_ (fun hHeld => ?_)
                · exact ⟨(hY.below (by first | assumption | exact bdrew _) hY.lt).cell 0, (hY.below (by first | assumption | exact bdrew _) hY.lt).cell 1, (hY.below (by first | assumption | exact bdrew _) hY.lt).cell 2, (hY.below (by first | assumption | exact bdrew _) hY.lt).cell 3, (hKp.below (by first | assumption | exact bdrew _) hKp.lt).cell 1, (hX.below (by first | assumption | exact bdrew _) hX.lt).cell 4⟩
                clear hK K
                try simp only [Act.put, lay1, lay2, lay3, lay4, lay5, lay6]
                refine wpAnyH_take (i := 2) (v := ?b3_v2) rfl (by kernel_rfl) (by kernel_rfl) (by kernel_rfl) (fun _ _ _ h => h) (Or.inl ⟨by kernel_rfl, ?b3_hy2⟩) (by assumption) ?b3_rest2
                case b3_hy2 => (intro w hSw; (try dsimp only at hSw); go_simp; try (with_reducible rfl))
                try simp only [Act.put, lay1, lay2, lay3, lay4, lay5, lay6]
                refine wpAnyH_take (i := 3) (v := ?b3_v3) rfl (by kernel_rfl) (by kernel_rfl) (by kernel_rfl) (fun _ _ _ h => h) (Or.inl ⟨by kernel_rfl, ?b3_hy3⟩) (by assumption) ?b3_rest3
                case b3_hy3 => (intro w hSw; (try dsimp only at hSw); go_simp; try (with_reducible rfl))
                try simp only [Act.put, lay1, lay2, lay3, lay4, lay5, lay6]
                refine wpAnyH_take (i := 4) (v := ?b3_v4) rfl (by kernel_rfl) (by kernel_rfl) (by kernel_rfl) (fun _ _ _ h => h) (Or.inl ⟨by kernel_rfl, ?b3_hy4⟩) (by assumption) ?b3_rest4
                case b3_hy4 => (intro w hSw; (try dsimp only at hSw); go_simp; try (with_reducible rfl))
                try simp only [Act.put, lay1, lay2, lay3, lay4, lay5, lay6]
                refine wpAnyH_take (i := 5) (v := ?b3_v5) rfl (by kernel_rfl) (by kernel_rfl) (by kernel_rfl) (fun _ _ _ h => h) (Or.inl ⟨by kernel_rfl, ?b3_hy5⟩) (by assumption) ?b3_rest5
                case b3_hy5 => (intro w hSw; (try dsimp only at hSw); go_simp; try (with_reducible rfl))
                try simp only [Act.put, lay1, lay2, lay3, lay4, lay5, lay6]
                refine wpAnyH_take (i := 6) (v := ?b3_v6) rfl (by kernel_rfl) (by kernel_rfl) (by kernel_rfl) (fun _ _ _ h => h) (Or.inl ⟨by kernel_rfl, ?b3_hy6⟩) (by assumption) ?b3_rest6
                case b3_hy6 => (intro w hSw; (try dsimp only at hSw); go_simp; try (with_reducible rfl))
                try simp only [Act.put, lay1, lay2, lay3, lay4, lay5, lay6]
                refine wpAnyH_take (i := 7) (v := ?b3_v7) rfl (by kernel_rfl) (by kernel_rfl) (by kernel_rfl) (fun _ _ _ h => h) (Or.inl ⟨by kernel_rfl, ?b3_hy7⟩) (by assumption) ?b3_rest7
                case b3_hy7 => (intro w hSw; (try dsimp only at hSw); go_simp; try (with_reducible rfl))
                try simp only [Act.put, lay1, lay2, lay3, lay4, lay5, lay6]
                refine wpAnyH_take (i := 8) (v := ?b3_v8) rfl (by kernel_rfl) (by kernel_rfl) (by kernel_rfl) (fun _ _ _ h => h) (Or.inl ⟨by kernel_rfl, ?b3_hy8⟩) (by assumption) ?b3_rest8
                case b3_hy8 => (intro w hSw; (try dsimp only at hSw); go_simp; try (with_reducible rfl))
                try simp only [Act.put, lay1, lay2, lay3, lay4, lay5, lay6]
                refine wpAnyH_take (i := 9) (v := ?b3_v9) rfl (by kernel_rfl) (by kernel_rfl) (by kernel_rfl) (fun _ _ _ h => h) (Or.inl ⟨by kernel_rfl, ?b3_hy9⟩) (by assumption) ?b3_rest9
                case b3_hy9 => (intro w hSw; (try dsimp only at hSw); go_simp; try (with_reducible rfl))
                try simp only [Act.put, lay1, lay2, lay3, lay4, lay5, lay6]
                refine wpAnyH_take (i := 10) (v := ?b3_v10) rfl (by kernel_rfl) (by kernel_rfl) (by kernel_rfl) (fun _ _ _ h => h) (Or.inl ⟨by kernel_rfl, ?b3_hy10⟩) (by assumption) ?b3_rest10
                case b3_hy10 => (intro w hSw; (try dsimp only at hSw); go_simp; try (with_reducible rfl))
                try simp only [Act.put, lay1, lay2, lay3, lay4, lay5, lay6]
                refine wpAnyH_take (i := 12) (v := ?b3_v12) rfl (by kernel_rfl) (by kernel_rfl) (by kernel_rfl) (fun _ _ _ h => h) (Or.inl ⟨by kernel_rfl, ?b3_hy12⟩) (by assumption) ?b3_rest12
                case b3_hy12 => (intro w hSw; (try dsimp only at hSw); go_simp; try (with_reducible rfl))
                try simp only [Act.put, lay1, lay2, lay3, lay4, lay5, lay6]
                refine wpAnyH_take (i := 13) (v := ?b3_v13) rfl (by kernel_rfl) (by kernel_rfl) (by kernel_rfl) (fun _ _ _ h => h) (Or.inl ⟨by kernel_rfl, ?b3_hy13⟩) (by assumption) ?b3_rest13
                case b3_hy13 => (intro w hSw; (try dsimp only at hSw); go_simp; try (with_reducible rfl))
                try simp only [Act.put, lay1, lay2, lay3, lay4, lay5, lay6]
                refine wpAnyH_take (i := 14) (v := ?b3_v14) rfl (by kernel_rfl) (by kernel_rfl) (by kernel_rfl) (fun _ _ _ h => h) (Or.inl ⟨by kernel_rfl, ?b3_hy14⟩) (by assumption) ?b3_rest14
                case b3_hy14 => (intro w hSw; (try dsimp only at hSw); go_simp; try (with_reducible rfl))
                try simp only [Act.put, lay1, lay2, lay3, lay4, lay5, lay6]
                refine wpAnyH_take (i := 15) (v := ?b3_v15) rfl (by kernel_rfl) (by kernel_rfl) (by kernel_rfl) (fun _ _ _ h => h) (Or.inl ⟨by kernel_rfl, ?b3_hy15⟩) (by assumption) ?b3_rest15
                case b3_hy15 => (intro w hSw; (try dsimp only at hSw); go_simp; try (with_reducible rfl))
                try simp only [Act.put, lay1, lay2, lay3, lay4, lay5, lay6]
                refine wpAnyH_take (i := 16) (v := ?b3_v16) rfl (by kernel_rfl) (by kernel_rfl) (by kernel_rfl) (fun _ _ _ h => h) (Or.inl ⟨by kernel_rfl, ?b3_hy16⟩) (by assumption) ?b3_rest16
                case b3_hy16 => (intro w hSw; (try dsimp only at hSw); go_simp; try (with_reducible rfl))
                try simp only [Act.put, lay1, lay2, lay3, lay4, lay5, lay6]
                refine wpAnyH_take (i := 17) (v := ?b3_v17) rfl (by kernel_rfl) (by kernel_rfl) (by kernel_rfl) (fun _ _ _ h => h) (Or.inl ⟨by kernel_rfl, ?b3_hy17⟩) (by assumption) ?b3_rest17
                case b3_hy17 => (intro w hSw; (try dsimp only at hSw); go_simp; try (with_reducible rfl))
                try simp only [Act.put, lay1, lay2, lay3, lay4, lay5, lay6]
                refine wpAnyH_take (i := 18) (v := ?b3_v18) rfl (by kernel_rfl) (by kernel_rfl) (by kernel_rfl) (fun _ _ _ h => h) (Or.inl ⟨by kernel_rfl, ?b3_hy18⟩) (by assumption) ?b3_rest18
                case b3_hy18 => (intro w hSw; (try dsimp only at hSw); go_simp; try (with_reducible rfl))
                try simp only [Act.put, lay1, lay2, lay3, lay4, lay5, lay6]
                refine wpAnyH_take (i := 19) (v := ?b3_v19) rfl (by kernel_rfl) (by kernel_rfl) (by kernel_rfl) (fun _ _ _ h => h) (Or.inl ⟨by kernel_rfl, ?b3_hy19⟩) (by assumption) ?b3_rest19
                case b3_hy19 => (intro w hSw; (try dsimp only at hSw); go_simp; try (with_reducible rfl))
                try simp only [Act.put, lay1, lay2, lay3, lay4, lay5, lay6]
                refine wpAnyH_take (i := 20) (v := ?b3_v20) rfl (by kernel_rfl) (by kernel_rfl) (by kernel_rfl) (fun _ _ _ h => h) (Or.inl ⟨by kernel_rfl, ?b3_hy20⟩) (by assumption) ?b3_rest20
                case b3_hy20 => (intro w hSw; (try dsimp only at hSw); go_simp; try (with_reducible rfl))
                try simp only [Act.put, lay1, lay2, lay3, lay4, lay5, lay6]
                refine wpAnyH_take (i := 21) (v := ?b3_v21) rfl (by kernel_rfl) (by kernel_rfl) (by kernel_rfl) (fun _ _ _ h => h) (Or.inl ⟨by kernel_rfl, ?b3_hy21⟩) (by assumption) ?b3_rest21
                case b3_hy21 => (intro w hSw; (try dsimp only at hSw); go_simp; try (with_reducible rfl))
                try simp only [Act.put, lay1, lay2, lay3, lay4, lay5, lay6]
                refine wpAnyH_ready (rs := [11]) (by kernel_rfl) (by simp) ?_
                refine AllReadyH.cons rfl (fun K hK => ?_) AllReadyH.nil
                go_simp
                refine (hLn _ _ (hbk.below d1)).mono ?_
                rintro e u2 ⟨rfl, d2⟩
                have d2 := bstep d1 d2
                go_wp2_with fail
                refine hK.out _ _ ?_ (fun hHeld => ?_)
                · exact ⟨(hY.below (by first | assumption | exact bdrew _) hY.lt).cell 0, (hY.below (by first | assumption | exact bdrew _) hY.lt).cell 1, (hY.below (by first | assumption | exact bdrew _) hY.lt).cell 2, (hY.below (by first | assumption | exact bdrew _) hY.lt).cell 3, (hKp.below (by first | assumption | exact bdrew _) hKp.lt).cell 1, (hX.below (by first | assumption | exact bdrew _) hX.lt).cell 4⟩
                clear hK K
                try simp only [Act.put, lay1, lay2, lay3, lay4, lay5, lay6]
                try dsimp only
                try simp only [Act.put, lay1, lay2, lay3, lay4, lay5, lay6]
                refine wpAnyH_take (i := 22) (v := ?b3_v22) rfl (by kernel_rfl) (by kernel_rfl) (by kernel_rfl) (fun _ _ _ h => h) (Or.inl ⟨by kernel_rfl, ?b3_hy22⟩) (by assumption) ?b3_rest22
                case b3_hy22 => (intro w hSw; (try dsimp only at hSw); go_simp; try (with_reducible rfl))
                try simp only [Act.put, lay1, lay2, lay3, lay4, lay5, lay6]
                try dsimp only
                try simp only [Act.put, lay1, lay2, lay3, lay4, lay5, lay6]
                refine wpAnyH_take (i := 23) (v := ?b3_v23) rfl (by kernel_rfl) (by kernel_rfl) (by kernel_rfl) (fun _ _ _ h => h) (Or.inl ⟨by kernel_rfl, ?b3_hy23⟩) (by assumption) ?b3_rest23
                case b3_hy23 => (intro w hSw; (try dsimp only at hSw); go_simp; try (with_reducible rfl))
                try simp only [Act.put, lay1, lay2, lay3, lay4, lay5, lay6]
                try dsimp only
                try simp only [Act.put, lay1, lay2, lay3, lay4, lay5, lay6]
                refine wpAnyH_done (by kernel_rfl) ?_ _
                refine NoPanic.normal ?_
                replace hx := hx.below d2
                replace hX := hX.below d2 hX.lt
                replace hKp := hKp.below d2 hKp.lt
                replace hbk := hbk.below d2
                replace hi1 := hi1.below d2
                replace hY := hY.below d2 hY.lt
                replace hB := hB.trans (d2.mono hB.size)
                clear c8_hX_0 c8_hX_1 c8_hX_2 c8_hX_3 c8_hX_4 c8_hX_5 c8_hKp_0 c8_hKp_1 c8_hKp_2 c8_hKp_3 c8_hY_0 c8_hY_1 c8_hY_2 c8_hY_3
                obtain ⟨c9_hX_0, c9_hX_1, c9_hX_2, c9_hX_3, c9_hX_4, c9_hX_5⟩ := hX.cells6
                obtain ⟨c9_hKp_0, c9_hKp_1, c9_hKp_2, c9_hKp_3⟩ := hKp.quad
                obtain ⟨c9_hY_0, c9_hY_1, c9_hY_2, c9_hY_3⟩ := hY.quad
                go_wp2
                go_ret
                exact ⟨congrArg (fun b => Ending.returned (Value.bool b)) (okTo_le HRES.out (show j + 1 ≤ bs.length by omega)).symm, hB⟩
            · have h1 : (k1 != k) = true := by rw [bne_iff_ne]; exact hke
              have h1' : decide (k1 = k) = false := decide_eq_false hke
              have hres : okTo k Z m o N bs (j + 1) = false := by rw [HS.out, HOK.out, h1']; rfl
              have HRES := Lib.hid (okTo_le hres (show j + 1 ≤ bs.length by omega))
              clear hres hke
              refine wp_region_noPanic ?_
              refine wp_region_held_drew (S := fun w' => w'.cell? ⟨X1, 0, none⟩ = some (.int .i64 k1) ∧ w'.cell? ⟨X1, 1, none⟩ = some (.int .i64 sc) ∧ w'.cell? ⟨X1, 2, none⟩ = some (.slice P1 cs.length Q1) ∧ w'.cell? ⟨X1, 3, none⟩ = some (.slice P2 wd.length Q2) ∧ w'.cell? ⟨g + 1, 1, none⟩ = some (.int .i64 Z) ∧ w'.cell? ⟨g, 4, none⟩ = some (.int .i64 N)) (by kernel_rfl) ?_ (fun hHeld => ?_)
              · exact ⟨(hY.below (by first | assumption | exact bdrew _) hY.lt).cell 0, (hY.below (by first | assumption | exact bdrew _) hY.lt).cell 1, (hY.below (by first | assumption | exact bdrew _) hY.lt).cell 2, (hY.below (by first | assumption | exact bdrew _) hY.lt).cell 3, (hKp.below (by first | assumption | exact bdrew _) hKp.lt).cell 1, (hX.below (by first | assumption | exact bdrew _) hX.lt).cell 4⟩
              refine wpAnyH_take (i := 0) (v := ?b4_v0) rfl (by kernel_rfl) (by kernel_rfl) (by kernel_rfl) (fun _ _ _ h => h) (Or.inl ⟨by kernel_rfl, ?b4_hy0⟩) (by assumption) ?b4_rest0
              case b4_hy0 => (intro w hSw; (try dsimp only at hSw); go_simp; try (with_reducible rfl))
              try simp only [Act.put, lay1, lay2, lay3, lay4, lay5, lay6]
              refine wpAnyH_ready (rs := [1]) (by kernel_rfl) (by simp) ?_
              refine AllReadyH.cons rfl (fun K hK => ?_) AllReadyH.nil
              go_simp
              refine (hR _ _ (hbk.below (bdrew _))).mono ?_
              rintro e u1 ⟨rfl, d1⟩
              have d1 := bstep (bdrew w9) d1
              go_wp2_with fail
              refine hK.out _ _ ?_ (fun hHeld => ?_)
              · exact ⟨(hY.below (by first | assumption | exact bdrew _) hY.lt).cell 0, (hY.below (by first | assumption | exact bdrew _) hY.lt).cell 1, (hY.below (by first | assumption | exact bdrew _) hY.lt).cell 2, (hY.below (by first | assumption | exact bdrew _) hY.lt).cell 3, (hKp.below (by first | assumption | exact bdrew _) hKp.lt).cell 1, (hX.below (by first | assumption | exact bdrew _) hX.lt).cell 4⟩
              clear hK K
              try simp only [Act.put, lay1, lay2, lay3, lay4, lay5, lay6]
              refine wpAnyH_take (i := 2) (v := ?b4_v2) rfl (by kernel_rfl) (by kernel_rfl) (by kernel_rfl) (fun _ _ _ h => h) (Or.inl ⟨by kernel_rfl, ?b4_hy2⟩) (by assumption) ?b4_rest2
              case b4_hy2 => (intro w hSw; (try dsimp only at hSw); go_simp; try (with_reducible rfl))
              try simp only [Act.put, lay1, lay2, lay3, lay4, lay5, lay6]
              refine wpAnyH_take (i := 3) (v := ?b4_v3) rfl (by kernel_rfl) (by kernel_rfl) (by kernel_rfl) (fun _ _ _ h => h) (Or.inl ⟨by kernel_rfl, ?b4_hy3⟩) (by assumption) ?b4_rest3
              case b4_hy3 => (intro w hSw; (try dsimp only at hSw); go_simp; try (with_reducible rfl))
              try simp only [Act.put, lay1, lay2, lay3, lay4, lay5, lay6]
              refine wpAnyH_take (i := 4) (v := ?b4_v4) rfl (by kernel_rfl) (by kernel_rfl) (by kernel_rfl) (fun _ _ _ h => h) (Or.inl ⟨by kernel_rfl, ?b4_hy4⟩) (by assumption) ?b4_rest4
              case b4_hy4 => (intro w hSw; (try dsimp only at hSw); go_simp; try (with_reducible rfl))
              try simp only [Act.put, lay1, lay2, lay3, lay4, lay5, lay6]
              refine wpAnyH_take (i := 5) (v := ?b4_v5) rfl (by kernel_rfl) (by kernel_rfl) (by kernel_rfl) (fun _ _ _ h => h) (Or.inl ⟨by kernel_rfl, ?b4_hy5⟩) (by assumption) ?b4_rest5
              case b4_hy5 => (intro w hSw; (try dsimp only at hSw); go_simp; try (with_reducible rfl))
              try simp only [Act.put, lay1, lay2, lay3, lay4, lay5, lay6]
              refine wpAnyH_take (i := 6) (v := ?b4_v6) rfl (by kernel_rfl) (by kernel_rfl) (by kernel_rfl) (fun _ _ _ h => h) (Or.inl ⟨by kernel_rfl, ?b4_hy6⟩) (by assumption) ?b4_rest6
              case b4_hy6 => (intro w hSw; (try dsimp only at hSw); go_simp; try (with_reducible rfl))
              try simp only [Act.put, lay1, lay2, lay3, lay4, lay5, lay6]
              refine wpAnyH_take (i := 7) (v := ?b4_v7) rfl (by kernel_rfl) (by kernel_rfl) (by kernel_rfl) (fun _ _ _ h => h) (Or.inl ⟨by kernel_rfl, ?b4_hy7⟩) (by assumption) ?b4_rest7
              case b4_hy7 => (intro w hSw; (try dsimp only at hSw); go_simp; try (with_reducible rfl))
              try simp only [Act.put, lay1, lay2, lay3, lay4, lay5, lay6]
              refine wpAnyH_take (i := 8) (v := ?b4_v8) rfl (by kernel_rfl) (by kernel_rfl) (by kernel_rfl) (fun _ _ _ h => h) (Or.inl ⟨by kernel_rfl, ?b4_hy8⟩) (by assumption) ?b4_rest8
              case b4_hy8 => (intro w hSw; (try dsimp only at hSw); go_simp; try (with_reducible rfl))
              try simp only [Act.put, lay1, lay2, lay3, lay4, lay5, lay6]
              refine wpAnyH_take (i := 9) (v := ?b4_v9) rfl (by kernel_rfl) (by kernel_rfl) (by kernel_rfl) (fun _ _ _ h => h) (Or.inl ⟨by kernel_rfl, ?b4_hy9⟩) (by assumption) ?b4_rest9
              case b4_hy9 => (intro w hSw; (try dsimp only at hSw); go_simp; try (with_reducible rfl))
              try simp only [Act.put, lay1, lay2, lay3, lay4, lay5, lay6]
              refine wpAnyH_take (i := 10) (v := undef) rfl (by kernel_rfl) (by kernel_rfl) (by kernel_rfl) (fun _ _ _ h => h) (Or.inr ⟨by kernel_rfl, rfl⟩) (by assumption) ?_
              try simp only [Act.put, lay1, lay2, lay3, lay4, lay5, lay6]
              refine wpAnyH_take (i := 11) (v := undef) rfl (by kernel_rfl) (by kernel_rfl) (by kernel_rfl) (fun _ _ _ h => h) (Or.inr ⟨by kernel_rfl, rfl⟩) (by assumption) ?_
              try simp only [Act.put, lay1, lay2, lay3, lay4, lay5, lay6]
              refine wpAnyH_take (i := 12) (v := undef) rfl (by kernel_rfl) (by kernel_rfl) (by kernel_rfl) (fun _ _ _ h => h) (Or.inr ⟨by kernel_rfl, rfl⟩) (by assumption) ?_
              try simp only [Act.put, lay1, lay2, lay3, lay4, lay5, lay6]
              refine wpAnyH_take (i := 13) (v := undef) rfl (by kernel_rfl) (by kernel_rfl) (by kernel_rfl) (fun _ _ _ h => h) (Or.inr ⟨by kernel_rfl, rfl⟩) (by assumption) ?_
              try simp only [Act.put, lay1, lay2, lay3, lay4, lay5, lay6]
              refine wpAnyH_take (i := 14) (v := undef) rfl (by kernel_rfl) (by kernel_rfl) (by kernel_rfl) (fun _ _ _ h => h) (Or.inr ⟨by kernel_rfl, rfl⟩) (by assumption) ?_
              try simp only [Act.put, lay1, lay2, lay3, lay4, lay5, lay6]
              refine wpAnyH_take (i := 15) (v := undef) rfl (by kernel_rfl) (by kernel_rfl) (by kernel_rfl) (fun _ _ _ h => h) (Or.inr ⟨by kernel_rfl, rfl⟩) (by assumption) ?_
              try simp only [Act.put, lay1, lay2, lay3, lay4, lay5, lay6]
              refine wpAnyH_take (i := 16) (v := undef) rfl (by kernel_rfl) (by kernel_rfl) (by kernel_rfl) (fun _ _ _ h => h) (Or.inr ⟨by kernel_rfl, rfl⟩) (by assumption) ?_
              try simp only [Act.put, lay1, lay2, lay3, lay4, lay5, lay6]
              refine wpAnyH_take (i := 17) (v := undef) rfl (by kernel_rfl) (by kernel_rfl) (by kernel_rfl) (fun _ _ _ h => h) (Or.inr ⟨by kernel_rfl, rfl⟩) (by assumption) ?_
              try simp only [Act.put, lay1, lay2, lay3, lay4, lay5, lay6]
              refine wpAnyH_take (i := 18) (v := undef) rfl (by kernel_rfl) (by kernel_rfl) (by kernel_rfl) (fun _ _ _ h => h) (Or.inr ⟨by kernel_rfl, rfl⟩) (by assumption) ?_
              try simp only [Act.put, lay1, lay2, lay3, lay4, lay5, lay6]
              refine wpAnyH_take (i := 19) (v := undef) rfl (by kernel_rfl) (by kernel_rfl) (by kernel_rfl) (fun _ _ _ h => h) (Or.inr ⟨by kernel_rfl, rfl⟩) (by assumption) ?_
              try simp only [Act.put, lay1, lay2, lay3, lay4, lay5, lay6]
              refine wpAnyH_take (i := 20) (v := undef) rfl (by kernel_rfl) (by kernel_rfl) (by kernel_rfl) (fun _ _ _ h => h) (Or.inr ⟨by kernel_rfl, rfl⟩) (by assumption) ?_
              try simp only [Act.put, lay1, lay2, lay3, lay4, lay5, lay6]
              refine wpAnyH_take (i := 21) (v := undef) rfl (by kernel_rfl) (by kernel_rfl) (by kernel_rfl) (fun _ _ _ h => h) (Or.inr ⟨by kernel_rfl, rfl⟩) (by assumption) ?_
              try simp only [Act.put, lay1, lay2, lay3, lay4, lay5, lay6]
              try dsimp only
              try simp only [Act.put, lay1, lay2, lay3, lay4, lay5, lay6]
              refine wpAnyH_take (i := 22) (v := undef) rfl (by kernel_rfl) (by kernel_rfl) (by kernel_rfl) (fun _ _ _ h => h) (Or.inr ⟨by kernel_rfl, rfl⟩) (by assumption) ?_
              try simp only [Act.put, lay1, lay2, lay3, lay4, lay5, lay6]
              try dsimp only
              try simp only [Act.put, lay1, lay2, lay3, lay4, lay5, lay6]
              refine wpAnyH_take (i := 23) (v := ?b4_v23) rfl (by kernel_rfl) (by kernel_rfl) (by kernel_rfl) (fun _ _ _ h => h) (Or.inl ⟨by kernel_rfl, ?b4_hy23⟩) (by assumption) ?b4_rest23
              case b4_hy23 => (intro w hSw; (try dsimp only at hSw); go_simp; try (with_reducible rfl))
              try simp only [Act.put, lay1, lay2, lay3, lay4, lay5, lay6]
              try dsimp only
              try simp only [Act.put, lay1, lay2, lay3, lay4, lay5, lay6]
              refine wpAnyH_done (by kernel_rfl) ?_ _
              refine NoPanic.normal ?_
              replace hx := hx.below d1
              replace hX := hX.below d1 hX.lt
              replace hKp := hKp.below d1 hKp.lt
              replace hbk := hbk.below d1
              replace hi1 := hi1.below d1
              replace hY := hY.below d1 hY.lt
              replace hB := hB.trans (d1.mono hB.size)
              clear c8_hX_0 c8_hX_1 c8_hX_2 c8_hX_3 c8_hX_4 c8_hX_5 c8_hKp_0 c8_hKp_1 c8_hKp_2 c8_hKp_3 c8_hY_0 c8_hY_1 c8_hY_2 c8_hY_3
              obtain ⟨c9_hX_0, c9_hX_1, c9_hX_2, c9_hX_3, c9_hX_4, c9_hX_5⟩ := hX.cells6
              obtain ⟨c9_hKp_0, c9_hKp_1, c9_hKp_2, c9_hKp_3⟩ := hKp.quad
              obtain ⟨c9_hY_0, c9_hY_1, c9_hY_2, c9_hY_3⟩ := hY.quad
              go_wp2
              go_ret
              exact ⟨congrArg (fun b => Ending.returned (Value.bool b)) HRES.out.symm, hB⟩
        · rw [if_pos rfl] at hkk
          subst hkk
          generalize blkR k1 sc cs wd = br at *
          go_upto_region 12 with fail
          rcases br with _ | _
          · have hres : okTo k Z m o N bs (j + 1) = false := by rw [HS.out, HOK.out]; rfl
            have HRES := Lib.hid (okTo_le hres (show j + 1 ≤ bs.length by omega))
            clear hres
            refine wp_region_noPanic ?_
            refine wp_region_held_drew (S := fun w' => w'.cell? ⟨X1, 0, none⟩ = some (.int .i64 k1) ∧ w'.cell? ⟨X1, 1, none⟩ = some (.int .i64 sc) ∧ w'.cell? ⟨X1, 2, none⟩ = some (.slice P1 cs.length Q1) ∧ w'.cell? ⟨X1, 3, none⟩ = some (.slice P2 wd.length Q2) ∧ w'.cell? ⟨g + 1, 1, none⟩ = some (.int .i64 Z) ∧ w'.cell? ⟨g, 4, none⟩ = some (.int .i64 N)) (by kernel_rfl) ?_ (fun hHeld => ?_)
            · exact ⟨(hY.below (by first | assumption | exact bdrew _) hY.lt).cell 0, (hY.below (by first | assumption | exact bdrew _) hY.lt).cell 1, (hY.below (by first | assumption | exact bdrew _) hY.lt).cell 2, (hY.below (by first | assumption | exact bdrew _) hY.lt).cell 3, (hKp.below (by first | assumption | exact bdrew _) hKp.lt).cell 1, (hX.below (by first | assumption | exact bdrew _) hX.lt).cell 4⟩
            refine wpAnyH_take (i := 0) (v := ?b5_v0) rfl (by kernel_rfl) (by kernel_rfl) (by kernel_rfl) (fun _ _ _ h => h) (Or.inl ⟨by kernel_rfl, ?b5_hy0⟩) (by assumption) ?b5_rest0
            case b5_hy0 => (intro w hSw; (try dsimp only at hSw); go_simp; try (with_reducible rfl))
            try simp only [Act.put, lay1, lay2, lay3, lay4, lay5, lay6]
            refine wpAnyH_ready (rs := [1]) (by kernel_rfl) (by simp) ?_
            refine AllReadyH.cons rfl (fun K hK => ?_) AllReadyH.nil
            go_simp
            refine (hR _ _ (hbk.below (bdrew _))).mono ?_
            rintro e u1 ⟨rfl, d1⟩
            have d1 := bstep (bdrew w9) d1
            go_wp2_with fail
            refine hK.out _ _ ?_ (fun hHeld => ?_)
            · exact ⟨(hY.below (by first | assumption | exact bdrew _) hY.lt).cell 0, (hY.below (by first | assumption | exact bdrew _) hY.lt).cell 1, (hY.below (by first | assumption | exact bdrew _) hY.lt).cell 2, (hY.below (by first | assumption | exact bdrew _) hY.lt).cell 3, (hKp.below (by first | assumption | exact bdrew _) hKp.lt).cell 1, (hX.below (by first | assumption | exact bdrew _) hX.lt).cell 4⟩
            clear hK K
            try simp only [Act.put, lay1, lay2, lay3, lay4, lay5, lay6]
            refine wpAnyH_take (i := 2) (v := ?b5_v2) rfl (by kernel_rfl) (by kernel_rfl) (by kernel_rfl) (fun _ _ _ h => h) (Or.inl ⟨by kernel_rfl, ?b5_hy2⟩) (by assumption) ?b5_rest2
            case b5_hy2 => (intro w hSw; (try dsimp only at hSw); go_simp; try (with_reducible rfl))
            try simp only [Act.put, lay1, lay2, lay3, lay4, lay5, lay6]
            refine wpAnyH_take (i := 3) (v := ?b5_v3) rfl (by kernel_rfl) (by kernel_rfl) (by kernel_rfl) (fun _ _ _ h => h) (Or.inl ⟨by kernel_rfl, ?b5_hy3⟩) (by assumption) ?b5_rest3
            case b5_hy3 => (intro w hSw; (try dsimp only at hSw); go_simp; try (with_reducible rfl))
            try simp only [Act.put, lay1, lay2, lay3, lay4, lay5, lay6]
            refine wpAnyH_take (i := 4) (v := undef) rfl (by kernel_rfl) (by kernel_rfl) (by kernel_rfl) (fun _ _ _ h => h) (Or.inr ⟨by kernel_rfl, rfl⟩) (by assumption) ?_
            try simp only [Act.put, lay1, lay2, lay3, lay4, lay5, lay6]
            refine wpAnyH_take (i := 5) (v := undef) rfl (by kernel_rfl) (by kernel_rfl) (by kernel_rfl) (fun _ _ _ h => h) (Or.inr ⟨by kernel_rfl, rfl⟩) (by assumption) ?_
            try simp only [Act.put, lay1, lay2, lay3, lay4, lay5, lay6]
            refine wpAnyH_take (i := 6) (v := undef) rfl (by kernel_rfl) (by kernel_rfl) (by kernel_rfl) (fun _ _ _ h => h) (Or.inr ⟨by kernel_rfl, rfl⟩) (by assumption) ?_
            try simp only [Act.put, lay1, lay2, lay3, lay4, lay5, lay6]
            refine wpAnyH_take (i := 7) (v := undef) rfl (by kernel_rfl) (by kernel_rfl) (by kernel_rfl) (fun _ _ _ h => h) (Or.inr ⟨by kernel_rfl, rfl⟩) (by assumption) ?_
            try simp only [Act.put, lay1, lay2, lay3, lay4, lay5, lay6]
            refine wpAnyH_take (i := 8) (v := ?b5_v8) rfl (by kernel_rfl) (by kernel_rfl) (by kernel_rfl) (fun _ _ _ h => h) (Or.inl ⟨by kernel_rfl, ?b5_hy8⟩) (by assumption) ?b5_rest8
            case b5_hy8 => (intro w hSw; (try dsimp only at hSw); go_simp; try (with_reducible rfl))
            try simp only [Act.put, lay1, lay2, lay3, lay4, lay5, lay6]
            refine wpAnyH_take (i := 9) (v := ?b5_v9) rfl (by kernel_rfl) (by kernel_rfl) (by kernel_rfl) (fun _ _ _ h => h) (Or.inl ⟨by kernel_rfl, ?b5_hy9⟩) (by assumption) ?b5_rest9
            case b5_hy9 => (intro w hSw; (try dsimp only at hSw); go_simp; try (with_reducible rfl))
            try simp only [Act.put, lay1, lay2, lay3, lay4, lay5, lay6]
            refine wpAnyH_take (i := 10) (v := undef) rfl (by kernel_rfl) (by kernel_rfl) (by kernel_rfl) (fun _ _ _ h => h) (Or.inr ⟨by kernel_rfl, rfl⟩) (by assumption) ?_
            try simp only [Act.put, lay1, lay2, lay3, lay4, lay5, lay6]
            refine wpAnyH_take (i := 11) (v := undef) rfl (by kernel_rfl) (by kernel_rfl) (by kernel_rfl) (fun _ _ _ h => h) (Or.inr ⟨by kernel_rfl, rfl⟩) (by assumption) ?_
            try simp only [Act.put, lay1, lay2, lay3, lay4, lay5, lay6]
            refine wpAnyH_take (i := 12) (v := undef) rfl (by kernel_rfl) (by kernel_rfl) (by kernel_rfl) (fun _ _ _ h => h) (Or.inr ⟨by kernel_rfl, rfl⟩) (by assumption) ?_
            try simp only [Act.put, lay1, lay2, lay3, lay4, lay5, lay6]
            refine wpAnyH_take (i := 13) (v := undef) rfl (by kernel_rfl) (by kernel_rfl) (by kernel_rfl) (fun _ _ _ h => h) (Or.inr ⟨by kernel_rfl, rfl⟩) (by assumption) ?_
            try simp only [Act.put, lay1, lay2, lay3, lay4, lay5, lay6]
            refine wpAnyH_take (i := 14) (v := undef) rfl (by kernel_rfl) (by kernel_rfl) (by kernel_rfl) (fun _ _ _ h => h) (Or.inr ⟨by kernel_rfl, rfl⟩) (by assumption) ?_
            try simp only [Act.put, lay1, lay2, lay3, lay4, lay5, lay6]
            refine wpAnyH_take (i := 15) (v := undef) rfl (by kernel_rfl) (by kernel_rfl) (by kernel_rfl) (fun _ _ _ h => h) (Or.inr ⟨by kernel_rfl, rfl⟩) (by assumption) ?_
            try simp only [Act.put, lay1, lay2, lay3, lay4, lay5, lay6]
            refine wpAnyH_take (i := 16) (v := undef) rfl (by kernel_rfl) (by kernel_rfl) (by kernel_rfl) (fun _ _ _ h => h) (Or.inr ⟨by kernel_rfl, rfl⟩) (by assumption) ?_
            try simp only [Act.put, lay1, lay2, lay3, lay4, lay5, lay6]
            refine wpAnyH_take (i := 17) (v := undef) rfl (by kernel_rfl) (by kernel_rfl) (by kernel_rfl) (fun _ _ _ h => h) (Or.inr ⟨by kernel_rfl, rfl⟩) (by assumption) ?_
            try simp only [Act.put, lay1, lay2, lay3, lay4, lay5, lay6]
            refine wpAnyH_take (i := 18) (v := undef) rfl (by kernel_rfl) (by kernel_rfl) (by kernel_rfl) (fun _ _ _ h => h) (Or.inr ⟨by kernel_rfl, rfl⟩) (by assumption) ?_
            try simp only [Act.put, lay1, lay2, lay3, lay4, lay5, lay6]
            refine wpAnyH_take (i := 19) (v := undef) rfl (by kernel_rfl) (by kernel_rfl) (by kernel_rfl) (fun _ _ _ h => h) (Or.inr ⟨by kernel_rfl, rfl⟩) (by assumption) ?_
            try simp only [Act.put, lay1, lay2, lay3, lay4, lay5, lay6]
            refine wpAnyH_take (i := 20) (v := undef) rfl (by kernel_rfl) (by kernel_rfl) (by kernel_rfl) (fun _ _ _ h => h) (Or.inr ⟨by kernel_rfl, rfl⟩) (by assumption) ?_
            try simp only [Act.put, lay1, lay2, lay3, lay4, lay5, lay6]
            refine wpAnyH_take (i := 21) (v := undef) rfl (by kernel_rfl) (by kernel_rfl) (by kernel_rfl) (fun _ _ _ h => h) (Or.inr ⟨by kernel_rfl, rfl⟩) (by assumption) ?_
            try simp only [Act.put, lay1, lay2, lay3, lay4, lay5, lay6]
            try dsimp only
            try simp only [Act.put, lay1, lay2, lay3, lay4, lay5, lay6]
            refine wpAnyH_take (i := 22) (v := undef) rfl (by kernel_rfl) (by kernel_rfl) (by kernel_rfl) (fun _ _ _ h => h) (Or.inr ⟨by kernel_rfl, rfl⟩) (by assumption) ?_
            try simp only [Act.put, lay1, lay2, lay3, lay4, lay5, lay6]
            try dsimp only
            try simp only [Act.put, lay1, lay2, lay3, lay4, lay5, lay6]
            refine wpAnyH_take (i := 23) (v := ?b5_v23) rfl (by kernel_rfl) (by kernel_rfl) (by kernel_rfl) (fun _ _ _ h => h) (Or.inl ⟨by kernel_rfl, ?b5_hy23⟩) (by assumption) ?b5_rest23
            case b5_hy23 => (intro w hSw; (try dsimp only at hSw); go_simp; try (with_reducible rfl))
            try simp only [Act.put, lay1, lay2, lay3, lay4, lay5, lay6]
            try dsimp only
            try simp only [Act.put, lay1, lay2, lay3, lay4, lay5, lay6]
            refine wpAnyH_done (by kernel_rfl) ?_ _
            refine NoPanic.normal ?_
            replace hx := hx.below d1
            replace hX := hX.below d1 hX.lt
            replace hKp := hKp.below d1 hKp.lt
            replace hbk := hbk.below d1
            replace hi1 := hi1.below d1
            replace hY := hY.below d1 hY.lt
            replace hB := hB.trans (d1.mono hB.size)
            clear c8_hX_0 c8_hX_1 c8_hX_2 c8_hX_3 c8_hX_4 c8_hX_5 c8_hKp_0 c8_hKp_1 c8_hKp_2 c8_hKp_3 c8_hY_0 c8_hY_1 c8_hY_2 c8_hY_3
            obtain ⟨c9_hX_0, c9_hX_1, c9_hX_2, c9_hX_3, c9_hX_4, c9_hX_5⟩ := hX.cells6
            obtain ⟨c9_hKp_0, c9_hKp_1, c9_hKp_2, c9_hKp_3⟩ := hKp.quad
            obtain ⟨c9_hY_0, c9_hY_1, c9_hY_2, c9_hY_3⟩ := hY.quad
            go_wp2
            go_ret
            exact ⟨congrArg (fun b => Ending.returned (Value.bool b)) HRES.out.symm, hB⟩
          · by_cases hke : k1 = 4
            · by_cases hle : ln = min (Z : Int) d
              · have h1 : (k1 != 4) = false := by rw [hke]; simp
                have h1' : decide (k1 = 4) = true := decide_eq_true hke
                have h2 : (ln != min (Z : Int) d) = false := by rw [hle]; simp
                have h2' : decide (ln = min (Z : Int) d) = true := decide_eq_true hle
                have hres : okTo k Z m o N bs (j + 1) = true := by rw [HS.out, HOK.out, h1', h2']; rfl
                have HRES := Lib.hid hres
                clear hres hke hle
                refine wp_region_noPanic ?_
                refine wp_region_held_drew (S := fun w' => w'.cell? ⟨X1, 0, none⟩ = some (.int .i64 k1) ∧ w'.cell? ⟨X1, 1, none⟩ = some (.int .i64 sc) ∧ w'.cell? ⟨X1, 2, none⟩ = some (.slice P1 cs.length Q1) ∧ w'.cell? ⟨X1, 3, none⟩ = some (.slice P2 wd.length Q2) ∧ w'.cell? ⟨g + 1, 1, none⟩ = some (.int .i64 Z) ∧ w'.cell? ⟨g, 4, none⟩ = some (.int .i64 N)) (by kernel_rfl) ?_ (fun hHeld => ?_)
                · exact ⟨(hY.below (by first | assumption | exact bdrew _) hY.lt).cell 0, (hY.below (by first | assumption | exact bdrew _) hY.lt).cell 1, (hY.below (by first | assumption | exact bdrew _) hY.lt).cell 2, (hY.below (by first | assumption | exact bdrew _) hY.lt).cell 3, (hKp.below (by first | assumption | exact bdrew _) hKp.lt).cell 1, (hX.below (by first | assumption | exact bdrew _) hX.lt).cell 4⟩
                refine wpAnyH_take (i := 0) (v := ?b6_v0) rfl (by kernel_rfl) (by kernel_rfl) (by kernel_rfl) (fun _ _ _ h => h) (Or.inl ⟨by kernel_rfl, ?b6_hy0⟩) (by assumption) ?b6_rest0
                case b6_hy0 => (intro w hSw; (try dsimp only at hSw); go_simp; try (with_reducible rfl))
                try simp only [Act.put, lay1, lay2, lay3, lay4, lay5, lay6]
                refine wpAnyH_ready (rs := [1]) (by kernel_rfl) (by simp) ?_
                refine AllReadyH.cons rfl (fun K hK => ?_) AllReadyH.nil
                go_simp
                refine (hR _ _ (hbk.below (bdrew _))).mono ?_
                rintro e u1 ⟨rfl, d1⟩
                have d1 := bstep (bdrew w9) d1
                go_wp2_with fail
                refine hK.out _ _ ?_ (fun hHeld => ?_)
                · exact ⟨(hY.below (by first | assumption | exact bdrew _) hY.lt).cell 0, (hY.below (by first | assumption | exact bdrew _) hY.lt).cell 1, (hY.below (by first | assumption | exact bdrew _) hY.lt).cell 2, (hY.below (by first | assumption | exact bdrew _) hY.lt).cell 3, (hKp.below (by first | assumption | exact bdrew _) hKp.lt).cell 1, (hX.below (by first | assumption | exact bdrew _) hX.lt).cell 4⟩
                clear hK K
                try simp only [Act.put, lay1, lay2, lay3, lay4, lay5, lay6]
                refine wpAnyH_take (i := 2) (v := ?b6_v2) rfl (by kernel_rfl) (by kernel_rfl) (by kernel_rfl) (fun _ _ _ h => h) (Or.inl ⟨by kernel_rfl, ?b6_hy2⟩) (by assumption) ?b6_rest2
                case b6_hy2 => (intro w hSw; (try dsimp only at hSw); go_simp; try (with_reducible rfl))
                try simp only [Act.put, lay1, lay2, lay3, lay4, lay5, lay6]
                refine wpAnyH_take (i := 3) (v := ?b6_v3) rfl (by kernel_rfl) (by kernel_rfl) (by kernel_rfl) (fun _ _ _ h => h) (Or.inl ⟨by kernel_rfl, ?b6_hy3⟩) (by assumption) ?b6_rest3
                case b6_hy3 => (intro w hSw; (try dsimp only at hSw); go_simp; try (with_reducible rfl))
                try simp only [Act.put, lay1, lay2, lay3, lay4, lay5, lay6]
                refine wpAnyH_take (i := 4) (v := ?b6_v4) rfl (by kernel_rfl) (by kernel_rfl) (by kernel_rfl) (fun _ _ _ h => h) (Or.inl ⟨by kernel_rfl, ?b6_hy4⟩) (by assumption) ?b6_rest4
                case b6_hy4 => (intro w hSw; (try dsimp only at hSw); go_simp; try (with_reducible rfl))
                try simp only [Act.put, lay1, lay2, lay3, lay4, lay5, lay6]
                refine wpAnyH_take (i := 5) (v := ?b6_v5) rfl (by kernel_rfl) (by kernel_rfl) (by kernel_rfl) (fun _ _ _ h => h) (Or.inl ⟨by kernel_rfl, ?b6_hy5⟩) (by assumption) ?b6_rest5
                case b6_hy5 => (intro w hSw; (try dsimp only at hSw); go_simp; try (with_reducible rfl))
                try simp only [Act.put, lay1, lay2, lay3, lay4, lay5, lay6]
                refine wpAnyH_take (i := 6) (v := ?b6_v6) rfl (by kernel_rfl) (by kernel_rfl) (by kernel_rfl) (fun _ _ _ h => h) (Or.inl ⟨by kernel_rfl, ?b6_hy6⟩) (by assumption) ?b6_rest6
                case b6_hy6 => (intro w hSw; (try dsimp only at hSw); go_simp; try (with_reducible rfl))
                try simp only [Act.put, lay1, lay2, lay3, lay4, lay5, lay6]
                refine wpAnyH_take (i := 7) (v := ?b6_v7) rfl (by kernel_rfl) (by kernel_rfl) (by kernel_rfl) (fun _ _ _ h => h) (Or.inl ⟨by kernel_rfl, ?b6_hy7⟩) (by assumption) ?b6_rest7
                case b6_hy7 => (intro w hSw; (try dsimp only at hSw); go_simp; try (with_reducible rfl))
                try simp only [Act.put, lay1, lay2, lay3, lay4, lay5, lay6]
                refine wpAnyH_take (i := 8) (v := ?b6_v8) rfl (by kernel_rfl) (by kernel_rfl) (by kernel_rfl) (fun _ _ _ h => h) (Or.inl ⟨by kernel_rfl, ?b6_hy8⟩) (by assumption) ?b6_rest8
                case b6_hy8 => (intro w hSw; (try dsimp only at hSw); go_simp; try (with_reducible rfl))
                try simp only [Act.put, lay1, lay2, lay3, lay4, lay5, lay6]
                refine wpAnyH_take (i := 9) (v := ?b6_v9) rfl (by kernel_rfl) (by kernel_rfl) (by kernel_rfl) (fun _ _ _ h => h) (Or.inl ⟨by kernel_rfl, ?b6_hy9⟩) (by assumption) ?b6_rest9
                case b6_hy9 => (intro w hSw; (try dsimp only at hSw); go_simp; try (with_reducible rfl))
                try simp only [Act.put, lay1, lay2, lay3, lay4, lay5, lay6]
                refine wpAnyH_take (i := 10) (v := ?b6_v10) rfl (by kernel_rfl) (by kernel_rfl) (by kernel_rfl) (fun _ _ _ h => h) (Or.inl ⟨by kernel_rfl, ?b6_hy10⟩) (by assumption) ?b6_rest10
                case b6_hy10 => (intro w hSw; (try dsimp only at hSw); go_simp; try (with_reducible rfl))
                try simp only [Act.put, lay1, lay2, lay3, lay4, lay5, lay6]
                refine wpAnyH_take (i := 12) (v := ?b6_v12) rfl (by kernel_rfl) (by kernel_rfl) (by kernel_rfl) (fun _ _ _ h => h) (Or.inl ⟨by kernel_rfl, ?b6_hy12⟩) (by assumption) ?b6_rest12
                case b6_hy12 => (intro w hSw; (try dsimp only at hSw); go_simp; try (with_reducible rfl))
                try simp only [Act.put, lay1, lay2, lay3, lay4, lay5, lay6]
                refine wpAnyH_take (i := 13) (v := ?b6_v13) rfl (by kernel_rfl) (by kernel_rfl) (by kernel_rfl) (fun _ _ _ h => h) (Or.inl ⟨by kernel_rfl, ?b6_hy13⟩) (by assumption) ?b6_rest13
                case b6_hy13 => (intro w hSw; (try dsimp only at hSw); go_simp; try (with_reducible rfl))
                try simp only [Act.put, lay1, lay2, lay3, lay4, lay5, lay6]
                refine wpAnyH_take (i := 14) (v := ?b6_v14) rfl (by kernel_rfl) (by kernel_rfl) (by kernel_rfl) (fun _ _ _ h => h) (Or.inl ⟨by kernel_rfl, ?b6_hy14⟩) (by assumption) ?b6_rest14
                case b6_hy14 => (intro w hSw; (try dsimp only at hSw); go_simp; try (with_reducible rfl))
                try simp only [Act.put, lay1, lay2, lay3, lay4, lay5, lay6]
                refine wpAnyH_take (i := 15) (v := ?b6_v15) rfl (by kernel_rfl) (by kernel_rfl) (by kernel_rfl) (fun _ _ _ h => h) (Or.inl ⟨by kernel_rfl, ?b6_hy15⟩) (by assumption) ?b6_rest15
                case b6_hy15 => (intro w hSw; (try dsimp only at hSw); go_simp; try (with_reducible rfl))
                try simp only [Act.put, lay1, lay2, lay3, lay4, lay5, lay6]
                refine wpAnyH_take (i := 16) (v := ?b6_v16) rfl (by kernel_rfl) (by kernel_rfl) (by kernel_rfl) (fun _ _ _ h => h) (Or.inl ⟨by kernel_rfl, ?b6_hy16⟩) (by assumption) ?b6_rest16
                case b6_hy16 => (intro w hSw; (try dsimp only at hSw); go_simp; try (with_reducible rfl))
                try simp only [Act.put, lay1, lay2, lay3, lay4, lay5, lay6]
                refine wpAnyH_take (i := 17) (v := ?b6_v17) rfl (by kernel_rfl) (by kernel_rfl) (by kernel_rfl) (fun _ _ _ h => h) (Or.inl ⟨by kernel_rfl, ?b6_hy17⟩) (by assumption) ?b6_rest17
                case b6_hy17 => (intro w hSw; (try dsimp only at hSw); go_simp; try (with_reducible rfl))
                try simp only [Act.put, lay1, lay2, lay3, lay4, lay5, lay6]
                refine wpAnyH_take (i := 18) (v := ?b6_v18) rfl (by kernel_rfl) (by kernel_rfl) (by kernel_rfl) (fun _ _ _ h => h) (Or.inl ⟨by kernel_rfl, ?b6_hy18⟩) (by assumption) ?b6_rest18
                case b6_hy18 => (intro w hSw; (try dsimp only at hSw); go_simp; try (with_reducible rfl))
                try simp only [Act.put, lay1, lay2, lay3, lay4, lay5, lay6]
                refine wpAnyH_take (i := 19) (v := ?b6_v19) rfl (by kernel_rfl) (by kernel_rfl) (by kernel_rfl) (fun _ _ _ h => h) (Or.inl ⟨by kernel_rfl, ?b6_hy19⟩) (by assumption) ?b6_rest19
                case b6_hy19 => (intro w hSw; (try dsimp only at hSw); go_simp; try (with_reducible rfl))
                try simp only [Act.put, lay1, lay2, lay3, lay4, lay5, lay6]
                refine wpAnyH_take (i := 20) (v := ?b6_v20) rfl (by kernel_rfl) (by kernel_rfl) (by kernel_rfl) (fun _ _ _ h => h) (Or.inl ⟨by kernel_rfl, ?b6_hy20⟩) (by assumption) ?b6_rest20
                case b6_hy20 => (intro w hSw; (try dsimp only at hSw); go_simp; try (with_reducible rfl))
                try simp only [Act.put, lay1, lay2, lay3, lay4, lay5, lay6]
                refine wpAnyH_take (i := 21) (v := ?b6_v21) rfl (by kernel_rfl) (by kernel_rfl) (by kernel_rfl) (fun _ _ _ h => h) (Or.inl ⟨by kernel_rfl, ?b6_hy21⟩) (by assumption) ?b6_rest21
                case b6_hy21 => (intro w hSw; (try dsimp only at hSw); go_simp; try (with_reducible rfl))
                try simp only [Act.put, lay1, lay2, lay3, lay4, lay5, lay6]
                refine wpAnyH_ready (rs := [11]) (by kernel_rfl) (by simp) ?_
                refine AllReadyH.cons rfl (fun K hK => ?_) AllReadyH.nil
                go_simp
                refine (hLn _ _ (hbk.below d1)).mono ?_
                rintro e u2 ⟨rfl, d2⟩
                have d2 := bstep d1 d2
                go_wp2_with fail
                refine hK.out _ _ ?_ (fun hHeld => ?_)
                · exact ⟨(hY.below (by first | assumption | exact bdrew _) hY.lt).cell 0, (hY.below (by first | assumption | exact bdrew _) hY.lt).cell 1, (hY.below (by first | assumption | exact bdrew _) hY.lt).cell 2, (hY.below (by first | assumption | exact bdrew _) hY.lt).cell 3, (hKp.below (by first | assumption | exact bdrew _) hKp.lt).cell 1, (hX.below (by first | assumption | exact bdrew _) hX.lt).cell 4⟩
                clear hK K
                try simp only [Act.put, lay1, lay2, lay3, lay4, lay5, lay6]
                try dsimp only
                try simp only [Act.put, lay1, lay2, lay3, lay4, lay5, lay6]
                refine wpAnyH_take (i := 22) (v := ?b6_v22) rfl (by kernel_rfl) (by kernel_rfl) (by kernel_rfl) (fun _ _ _ h => h) (Or.inl ⟨by kernel_rfl, ?b6_hy22⟩) (by assumption) ?b6_rest22
                case b6_hy22 => (intro w hSw; (try dsimp only at hSw); go_simp; try (with_reducible rfl))
                try simp only [Act.put, lay1, lay2, lay3, lay4, lay5, lay6]
                try dsimp only
                try simp only [Act.put, lay1, lay2, lay3, lay4, lay5, lay6]
                refine wpAnyH_take (i := 23) (v := ?b6_v23) rfl (by kernel_rfl) (by kernel_rfl) (by kernel_rfl) (fun _ _ _ h => h) (Or.inl ⟨by kernel_rfl, ?b6_hy23⟩) (by assumption) ?b6_rest23
                case b6_hy23 => (intro w hSw; (try dsimp only at hSw); go_simp; try (with_reducible rfl))
                try simp only [Act.put, lay1, lay2, lay3, lay4, lay5, lay6]
                try dsimp only
                try simp only [Act.put, lay1, lay2, lay3, lay4, lay5, lay6]
                refine wpAnyH_done (by kernel_rfl) ?_ _
                refine NoPanic.normal ?_
                replace hx := hx.below d2
                replace hX := hX.below d2 hX.lt
                replace hKp := hKp.below d2 hKp.lt
                replace hbk := hbk.below d2
                replace hi1 := hi1.below d2
                replace hY := hY.below d2 hY.lt
                replace hB := hB.trans (d2.mono hB.size)
                clear c8_hX_0 c8_hX_1 c8_hX_2 c8_hX_3 c8_hX_4 c8_hX_5 c8_hKp_0 c8_hKp_1 c8_hKp_2 c8_hKp_3 c8_hY_0 c8_hY_1 c8_hY_2 c8_hY_3
                obtain ⟨c9_hX_0, c9_hX_1, c9_hX_2, c9_hX_3, c9_hX_4, c9_hX_5⟩ := hX.cells6
                obtain ⟨c9_hKp_0, c9_hKp_1, c9_hKp_2, c9_hKp_3⟩ := hKp.quad
                obtain ⟨c9_hY_0, c9_hY_1, c9_hY_2, c9_hY_3⟩ := hY.quad
                go_wp2
                exact ⟨⟨j + 1, by go_num, by omega, HRES, bl.trans ((show Below wr.heap.size wr _ from bstep hBr d2).mono bl.size)⟩, by simp [intOf]; omega⟩
              · have h1 : (k1 != 4) = false := by rw [hke]; simp
                have h1' : decide (k1 = 4) = true := decide_eq_true hke
                have h2 : (ln != min (Z : Int) d) = true := by rw [bne_iff_ne]; exact hle
                have h2' : decide (ln = min (Z : Int) d) = false := decide_eq_false hle
                have hres : okTo k Z m o N bs (j + 1) = false := by rw [HS.out, HOK.out, h1', h2']; rfl
                have HRES := Lib.hid hres
                clear hres hke hle
                refine wp_region_noPanic ?_
                refine wp_region_held_drew (S := fun w' => w'.cell? ⟨X1, 0, none⟩ = some (.int .i64 k1) ∧ w'.cell? ⟨X1, 1, none⟩ = some (.int .i64 sc) ∧ w'.cell? ⟨X1, 2, none⟩ = some (.slice P1 cs.length Q1) ∧ w'.cell? ⟨X1, 3, none⟩ = some (.slice P2 wd.length Q2) ∧ w'.cell? ⟨g + 1, 1, none⟩ = some (.int .i64 Z) ∧ w'.cell? ⟨g, 4, none⟩ = some (.int .i64 N)) (by kernel_rfl) ?_ (fun hHeld => ?_)
                · exact ⟨(hY.below (by first | assumption | exact bdrew _) hY.lt).cell 0, (hY.below (by first | assumption | exact bdrew _) hY.lt).cell 1, (hY.below (by first | assumption | exact bdrew _) hY.lt).cell 2, (hY.below (by first | assumption | exact bdrew _) hY.lt).cell 3, (hKp.below (by first | assumption | exact bdrew _) hKp.lt).cell 1, (hX.below (by first | assumption | exact bdrew _) hX.lt).cell 4⟩
                refine wpAnyH_take (i := 0) (v := ?b7_v0) rfl (by kernel_rfl) (by kernel_rfl) (by kernel_rfl) (fun _ _ _ h => h) (Or.inl ⟨by kernel_rfl, ?b7_hy0⟩) (by assumption) ?b7_rest0
                case b7_hy0 => (intro w hSw; (try dsimp only at hSw); go_simp; try (with_reducible rfl))
                try simp only [Act.put, lay1, lay2, lay3, lay4, lay5, lay6]
                refine wpAnyH_ready (rs := [1]) (by kernel_rfl) (by simp) ?_
                refine AllReadyH.cons rfl (fun K hK => ?_) AllReadyH.nil
                go_simp
                refine (hR _ _ (hbk.below (bdrew _))).mono ?_
                rintro e u1 ⟨rfl, d1⟩
                have d1 := bstep (bdrew w9) d1
                go_wp2_with fail
                refine hK.out _ _ ?_ (fun hHeld => ?_)
                · exact ⟨(hY.below (by first | assumption | exact bdrew _) hY.lt).cell 0, (hY.below (by first | assumption | exact bdrew _) hY.lt).cell 1, (hY.below (by first | assumption | exact bdrew _) hY.lt).cell 2, (hY.below (by first | assumption | exact bdrew _) hY.lt).cell 3, (hKp.below (by first | assumption | exact bdrew _) hKp.lt).cell 1, (hX.below (by first | assumption | exact bdrew _) hX.lt).cell 4⟩
                clear hK K
                try simp only [Act.put, lay1, lay2, lay3, lay4, lay5, lay6]
                refine wpAnyH_take (i := 2) (v := ?b7_v2) rfl (by kernel_rfl) (by kernel_rfl) (by kernel_rfl) (fun _ _ _ h => h) (Or.inl ⟨by kernel_rfl, ?b7_hy2⟩) (by assumption) ?b7_rest2
                case b7_hy2 => (intro w hSw; (try dsimp only at hSw); go_simp; try (with_reducible rfl))
                try simp only [Act.put, lay1, lay2, lay3, lay4, lay5, lay6]
                refine wpAnyH_take (i := 3) (v := ?b7_v3) rfl (by kernel_rfl) (by kernel_rfl) (by kernel_rfl) (fun _ _ _ h => h) (Or.inl ⟨by kernel_rfl, ?b7_hy3⟩) (by assumption) ?b7_rest3
                case b7_hy3 => (intro w hSw; (try dsimp only at hSw); go_simp; try (with_reducible rfl))
                try simp only [Act.put, lay1, lay2, lay3, lay4, lay5, lay6]
                refine wpAnyH_take (i := 4) (v := ?b7_v4) rfl (by kernel_rfl) (by kernel_rfl) (by kernel_rfl) (fun _ _ _ h => h) (Or.inl ⟨by kernel_rfl, ?b7_hy4⟩) (by assumption) ?b7_rest4
                case b7_hy4 => (intro w hSw; (try dsimp only at hSw); go_simp; try (with_reducible rfl))
                try simp only [Act.put, lay1, lay2, lay3, lay4, lay5, lay6]
                refine wpAnyH_take (i := 5) (v := ?b7_v5) rfl (by kernel_rfl) (by kernel_rfl) (by kernel_rfl) (fun _ _ _ h => h) (Or.inl ⟨by kernel_rfl, ?b7_hy5⟩) (by assumption) ?b7_rest5
                case b7_hy5 => (intro w hSw; (try dsimp only at hSw); go_simp; try (with_reducible rfl))
                try simp only [Act.put, lay1, lay2, lay3, lay4, lay5, lay6]
                refine wpAnyH_take (i := 6) (v := ?b7_v6) rfl (by kernel_rfl) (by kernel_rfl) (by kernel_rfl) (fun _ _ _ h => h) (Or.inl ⟨by kernel_rfl, ?b7_hy6⟩) (by assumption) ?b7_rest6
                case b7_hy6 => (intro w hSw; (try dsimp only at hSw); go_simp; try (with_reducible rfl))
                try simp only [Act.put, lay1, lay2, lay3, lay4, lay5, lay6]
                refine wpAnyH_take (i := 7) (v := ?b7_v7) rfl (by kernel_rfl) (by kernel_rfl) (by kernel_rfl) (fun _ _ _ h => h) (Or.inl ⟨by kernel_rfl, ?b7_hy7⟩) (by assumption) ?b7_rest7
                case b7_hy7 => (intro w hSw; (try dsimp only at hSw); go_simp; try (with_reducible rfl))
                try simp only [Act.put, lay1, lay2, lay3, lay4, lay5, lay6]
                refine wpAnyH_take (i := 8) (v := ?b7_v8) rfl (by kernel_rfl) (by kernel_rfl) (by kernel_rfl) (fun _ _ _ h => h) (Or.inl ⟨by kernel_rfl, ?b7_hy8⟩) (by assumption) ?b7_rest8
                case b7_hy8 => (intro w hSw; (try dsimp only at hSw); go_simp; try (with_reducible rfl))
                try simp only [Act.put, lay1, lay2, lay3, lay4, lay5, lay6]
                refine wpAnyH_take (i := 9) (v := ?b7_v9) rfl (by kernel_rfl) (by kernel_rfl) (by kernel_rfl) (fun _ _ _ h => h) (Or.inl ⟨by kernel_rfl, ?b7_hy9⟩) (by assumption) ?b7_rest9
                case b7_hy9 => (intro w hSw; (try dsimp only at hSw); go_simp; try (with_reducible rfl))
                try simp only [Act.put, lay1, lay2, lay3, lay4, lay5, lay6]
                refine wpAnyH_take (i := 10) (v := ?b7_v10) rfl (by kernel_rfl) (by kernel_rfl) (by kernel_rfl) (fun _ _ _ h => h) (Or.inl ⟨by kernel_rfl, ?b7_hy10⟩) (by assumption) ?b7_rest10
                case b7_hy10 => (intro w hSw; (try dsimp only at hSw); go_simp; try (with_reducible rfl))
                try simp only [Act.put, lay1, lay2, lay3, lay4, lay5, lay6]
                refine wpAnyH_take (i := 12) (v := ?b7_v12) rfl (by kernel_rfl) (by kernel_rfl) (by kernel_rfl) (fun _ _ _ h => h) (Or.inl ⟨by kernel_rfl, ?b7_hy12⟩) (by assumption) ?b7_rest12
                case b7_hy12 => (intro w hSw; (try dsimp only at hSw); go_simp; try (with_reducible rfl))
                try simp only [Act.put, lay1, lay2, lay3, lay4, lay5, lay6]
                refine wpAnyH_take (i := 13) (v := ?b7_v13) rfl (by kernel_rfl) (by kernel_rfl) (by kernel_rfl) (fun _ _ _ h => h) (Or.inl ⟨by kernel_rfl, ?b7_hy13⟩) (by assumption) ?b7_rest13
                case b7_hy13 => (intro w hSw; (try dsimp only at hSw); go_simp; try (with_reducible rfl))
                try simp only [Act.put, lay1, lay2, lay3, lay4, lay5, lay6]
                refine wpAnyH_take (i := 14) (v := ?b7_v14) rfl (by kernel_rfl) (by kernel_rfl) (by kernel_rfl) (fun _ _ _ h => h) (Or.inl ⟨by kernel_rfl, ?b7_hy14⟩) (by assumption) ?b7_rest14
                case b7_hy14 => (intro w hSw; (try dsimp only at hSw); go_simp; try (with_reducible rfl))
                try simp only [Act.put, lay1, lay2, lay3, lay4, lay5, lay6]
                refine wpAnyH_take (i := 15) (v := ?b7_v15) rfl (by kernel_rfl) (by kernel_rfl) (by kernel_rfl) (fun _ _ _ h => h) (Or.inl ⟨by kernel_rfl, ?b7_hy15⟩) (by assumption) ?b7_rest15
                case b7_hy15 => (intro w hSw; (try dsimp only at hSw); go_simp; try (with_reducible rfl))
                try simp only [Act.put, lay1, lay2, lay3, lay4, lay5, lay6]
                refine wpAnyH_take (i := 16) (v := ?b7_v16) rfl (by kernel_rfl) (by kernel_rfl) (by kernel_rfl) (fun _ _ _ h => h) (Or.inl ⟨by kernel_rfl, ?b7_hy16⟩) (by assumption) ?b7_rest16
                case b7_hy16 => (intro w hSw; (try dsimp only at hSw); go_simp; try (with_reducible rfl))
                try simp only [Act.put, lay1, lay2, lay3, lay4, lay5, lay6]
                refine wpAnyH_take (i := 17) (v := ?b7_v17) rfl (by kernel_rfl) (by kernel_rfl) (by kernel_rfl) (fun _ _ _ h => h) (Or.inl ⟨by kernel_rfl, ?b7_hy17⟩) (by assumption) ?b7_rest17
                case b7_hy17 => (intro w hSw; (try dsimp only at hSw); go_simp; try (with_reducible rfl))
                try simp only [Act.put, lay1, lay2, lay3, lay4, lay5, lay6]
                refine wpAnyH_take (i := 18) (v := ?b7_v18) rfl (by kernel_rfl) (by kernel_rfl) (by kernel_rfl) (fun _ _ _ h => h) (Or.inl ⟨by kernel_rfl, ?b7_hy18⟩) (by assumption) ?b7_rest18
                case b7_hy18 => (intro w hSw; (try dsimp only at hSw); go_simp; try (with_reducible rfl))
                try simp only [Act.put, lay1, lay2, lay3, lay4, lay5, lay6]
                refine wpAnyH_take (i := 19) (v := ?b7_v19) rfl (by kernel_rfl) (by kernel_rfl) (by kernel_rfl) (fun _ _ _ h => h) (Or.inl ⟨by kernel_rfl, ?b7_hy19⟩) (by assumption) ?b7_rest19
                case b7_hy19 => (intro w hSw; (try dsimp only at hSw); go_simp; try (with_reducible rfl))
                try simp only [Act.put, lay1, lay2, lay3, lay4, lay5, lay6]
                refine wpAnyH_take (i := 20) (v := ?b7_v20) rfl (by kernel_rfl) (by kernel_rfl) (by kernel_rfl) (fun _ _ _ h => h) (Or.inl ⟨by kernel_rfl, ?b7_hy20⟩) (by assumption) ?b7_rest20
                case b7_hy20 => (intro w hSw; (try dsimp only at hSw); go_simp; try (with_reducible rfl))
                try simp only [Act.put, lay1, lay2, lay3, lay4, lay5, lay6]
                refine wpAnyH_take (i := 21) (v := ?b7_v21) rfl (by kernel_rfl) (by kernel_rfl) (by kernel_rfl) (fun _ _ _ h => h) (Or.inl ⟨by kernel_rfl, ?b7_hy21⟩) (by assumption) ?b7_rest21
                case b7_hy21 => (intro w hSw; (try dsimp only at hSw); go_simp; try (with_reducible rfl))
                try simp only [Act.put, lay1, lay2, lay3, lay4, lay5, lay6]
                refine wpAnyH_ready (rs := [11]) (by kernel_rfl) (by simp) ?_
                refine AllReadyH.cons rfl (fun K hK => ?_) AllReadyH.nil
                go_simp
                refine (hLn _ _ (hbk.below d1)).mono ?_
                rintro e u2 ⟨rfl, d2⟩
                have d2 := bstep d1 d2
                go_wp2_with fail
                refine hK.out _ _ ?_ (fun hHeld => ?_)
                · exact ⟨(hY.below (by first | assumption | exact bdrew _) hY.lt).cell 0, (hY.below (by first | assumption | exact bdrew _) hY.lt).cell 1, (hY.below (by first | assumption | exact bdrew _) hY.lt).cell 2, (hY.below (by first | assumption | exact bdrew _) hY.lt).cell 3, (hKp.below (by first | assumption | exact bdrew _) hKp.lt).cell 1, (hX.below (by first | assumption | exact bdrew _) hX.lt).cell 4⟩
                clear hK K
                try simp only [Act.put, lay1, lay2, lay3, lay4, lay5, lay6]
                try dsimp only
                try simp only [Act.put, lay1, lay2, lay3, lay4, lay5, lay6]
                refine wpAnyH_take (i := 22) (v := ?b7_v22) rfl (by kernel_rfl) (by kernel_rfl) (by kernel_rfl) (fun _ _ _ h => h) (Or.inl ⟨by kernel_rfl, ?b7_hy22⟩) (by assumption) ?b7_rest22
                case b7_hy22 => (intro w hSw; (try dsimp only at hSw); go_simp; try (with_reducible rfl))
                try simp only [Act.put, lay1, lay2, lay3, lay4, lay5, lay6]
                try dsimp only
                try simp only [Act.put, lay1, lay2, lay3, lay4, lay5, lay6]
                refine wpAnyH_take (i := 23) (v := ?b7_v23) rfl (by kernel_rfl) (by kernel_rfl) (by kernel_rfl) (fun _ _ _ h => h) (Or.inl ⟨by kernel_rfl, ?b7_hy23⟩) (by assumption) ?b7_rest23
                case b7_hy23 => (intro w hSw; (try dsimp only at hSw); go_simp; try (with_reducible rfl))
                try simp only [Act.put, lay1, lay2, lay3, lay4, lay5, lay6]
                try dsimp only
                try simp only [Act.put, lay1, lay2, lay3, lay4, lay5, lay6]
                refine wpAnyH_done (by kernel_rfl) ?_ _
                refine NoPanic.normal ?_
                replace hx := hx.below d2
                replace hX := hX.below d2 hX.lt
                replace hKp := hKp.below d2 hKp.lt
                replace hbk := hbk.below d2
                replace hi1 := hi1.below d2
                replace hY := hY.below d2 hY.lt
                replace hB := hB.trans (d2.mono hB.size)
                clear c8_hX_0 c8_hX_1 c8_hX_2 c8_hX_3 c8_hX_4 c8_hX_5 c8_hKp_0 c8_hKp_1 c8_hKp_2 c8_hKp_3 c8_hY_0 c8_hY_1 c8_hY_2 c8_hY_3
                obtain ⟨c9_hX_0, c9_hX_1, c9_hX_2, c9_hX_3, c9_hX_4, c9_hX_5⟩ := hX.cells6
                obtain ⟨c9_hKp_0, c9_hKp_1, c9_hKp_2, c9_hKp_3⟩ := hKp.quad
                obtain ⟨c9_hY_0, c9_hY_1, c9_hY_2, c9_hY_3⟩ := hY.quad
                go_wp2
                go_ret
                exact ⟨congrArg (fun b => Ending.returned (Value.bool b)) (okTo_le HRES.out (show j + 1 ≤ bs.length by omega)).symm, hB⟩
            · have h1 : (k1 != 4) = true := by rw [bne_iff_ne]; exact hke
              have h1' : decide (k1 = 4) = false := decide_eq_false hke
              have hres : okTo k Z m o N bs (j + 1) = false := by rw [HS.out, HOK.out, h1']; rfl
              have HRES := Lib.hid (okTo_le hres (show j + 1 ≤ bs.length by omega))
              clear hres hke
              refine wp_region_noPanic ?_
              refine wp_region_held_drew (S := fun w' => w'.cell? ⟨X1, 0, none⟩ = some (.int .i64 k1) ∧ w'.cell? ⟨X1, 1, none⟩ = some (.int .i64 sc) ∧ w'.cell? ⟨X1, 2, none⟩ = some (.slice P1 cs.length Q1) ∧ w'.cell? ⟨X1, 3, none⟩ = some (.slice P2 wd.length Q2) ∧ w'.cell? ⟨g + 1, 1, none⟩ = some (.int .i64 Z) ∧ w'.cell? ⟨g, 4, none⟩ = some (.int .i64 N)) (by kernel_rfl) ?_ (fun hHeld => ?_)
              · exact ⟨(hY.below (by first | assumption | exact bdrew _) hY.lt).cell 0, (hY.below (by first | assumption | exact bdrew _) hY.lt).cell 1, (hY.below (by first | assumption | exact bdrew _) hY.lt).cell 2, (hY.below (by first | assumption | exact bdrew _) hY.lt).cell 3, (hKp.below (by first | assumption | exact bdrew _) hKp.lt).cell 1, (hX.below (by first | assumption | exact bdrew _) hX.lt).cell 4⟩
              refine wpAnyH_take (i := 0) (v := ?b8_v0) rfl (by kernel_rfl) (by kernel_rfl) (by kernel_rfl) (fun _ _ _ h => h) (Or.inl ⟨by kernel_rfl, ?b8_hy0⟩) (by assumption) ?b8_rest0
              case b8_hy0 => (intro w hSw; (try dsimp only at hSw); go_simp; try (with_reducible rfl))
              try simp only [Act.put, lay1, lay2, lay3, lay4, lay5, lay6]
              refine wpAnyH_ready (rs := [1]) (by kernel_rfl) (by simp) ?_
              refine AllReadyH.cons rfl (fun K hK => ?_) AllReadyH.nil
              go_simp
              refine (hR _ _ (hbk.below (bdrew _))).mono ?_
              rintro e u1 ⟨rfl, d1⟩
              have d1 := bstep (bdrew w9) d1
              go_wp2_with fail
              refine hK.out _ _ ?_ (fun hHeld => ?_)
              · exact ⟨(hY.below (by first | assumption | exact bdrew _) hY.lt).cell 0, (hY.below (by first | assumption | exact bdrew _) hY.lt).cell 1, (hY.below (by first | assumption | exact bdrew _) hY.lt).cell 2, (hY.below (by first | assumption | exact bdrew _) hY.lt).cell 3, (hKp.below (by first | assumption | exact bdrew _) hKp.lt).cell 1, (hX.below (by first | assumption | exact bdrew _) hX.lt).cell 4⟩
              clear hK K
              try simp only [Act.put, lay1, lay2, lay3, lay4, lay5, lay6]
              refine wpAnyH_take (i := 2) (v := ?b8_v2) rfl (by kernel_rfl) (by kernel_rfl) (by kernel_rfl) (fun _ _ _ h => h) (Or.inl ⟨by kernel_rfl, ?b8_hy2⟩) (by assumption) ?b8_rest2
              case b8_hy2 => (intro w hSw; (try dsimp only at hSw); go_simp; try (with_reducible rfl))
              try simp only [Act.put, lay1, lay2, lay3, lay4, lay5, lay6]
              refine wpAnyH_take (i := 3) (v := ?b8_v3) rfl (by kernel_rfl) (by kernel_rfl) (by kernel_rfl) (fun _ _ _ h => h) (Or.inl ⟨by kernel_rfl, ?b8_hy3⟩) (by assumption) ?b8_rest3
              case b8_hy3 => (intro w hSw; (try dsimp only at hSw); go_simp; try (with_reducible rfl))
              try simp only [Act.put, lay1, lay2, lay3, lay4, lay5, lay6]
              refine wpAnyH_take (i := 4) (v := ?b8_v4) rfl (by kernel_rfl) (by kernel_rfl) (by kernel_rfl) (fun _ _ _ h => h) (Or.inl ⟨by kernel_rfl, ?b8_hy4⟩) (by assumption) ?b8_rest4
              case b8_hy4 => (intro w hSw; (try dsimp only at hSw); go_simp; try (with_reducible rfl))
              try simp only [Act.put, lay1, lay2, lay3, lay4, lay5, lay6]
              refine wpAnyH_take (i := 5) (v := ?b8_v5) rfl (by kernel_rfl) (by kernel_rfl) (by kernel_rfl) (fun _ _ _ h => h) (Or.inl ⟨by kernel_rfl, ?b8_hy5⟩) (by assumption) ?b8_rest5
              case b8_hy5 => (intro w hSw; (try dsimp only at hSw); go_simp; try (with_reducible rfl))
              try simp only [Act.put, lay1, lay2, lay3, lay4, lay5, lay6]
              refine wpAnyH_take (i := 6) (v := ?b8_v6) rfl (by kernel_rfl) (by kernel_rfl) (by kernel_rfl) (fun _ _ _ h => h) (Or.inl ⟨by kernel_rfl, ?b8_hy6⟩) (by assumption) ?b8_rest6
              case b8_hy6 => (intro w hSw; (try dsimp only at hSw); go_simp; try (with_reducible rfl))
              try simp only [Act.put, lay1, lay2, lay3, lay4, lay5, lay6]
              refine wpAnyH_take (i := 7) (v := ?b8_v7) rfl (by kernel_rfl) (by kernel_rfl) (by kernel_rfl) (fun _ _ _ h => h) (Or.inl ⟨by kernel_rfl, ?b8_hy7⟩) (by assumption) ?b8_rest7
              case b8_hy7 => (intro w hSw; (try dsimp only at hSw); go_simp; try (with_reducible rfl))
              try simp only [Act.put, lay1, lay2, lay3, lay4, lay5, lay6]
              refine wpAnyH_take (i := 8) (v := ?b8_v8) rfl (by kernel_rfl) (by kernel_rfl) (by kernel_rfl) (fun _ _ _ h => h) (Or.inl ⟨by kernel_rfl, ?b8_hy8⟩) (by assumption) ?b8_rest8
              case b8_hy8 => (intro w hSw; (try dsimp only at hSw); go_simp; try (with_reducible rfl))
              try simp only [Act.put, lay1, lay2, lay3, lay4, lay5, lay6]
              refine wpAnyH_take (i := 9) (v := ?b8_v9) rfl (by kernel_rfl) (by kernel_rfl) (by kernel_rfl) (fun _ _ _ h => h) (Or.inl ⟨by kernel_rfl, ?b8_hy9⟩) (by assumption) ?b8_rest9
              case b8_hy9 => (intro w hSw; (try dsimp only at hSw); go_simp; try (with_reducible rfl))
              try simp only [Act.put, lay1, lay2, lay3, lay4, lay5, lay6]
              refine wpAnyH_take (i := 10) (v := undef) rfl (by kernel_rfl) (by kernel_rfl) (by kernel_rfl) (fun _ _ _ h => h) (Or.inr ⟨by kernel_rfl, rfl⟩) (by assumption) ?_
              try simp only [Act.put, lay1, lay2, lay3, lay4, lay5, lay6]
              refine wpAnyH_take (i := 11) (v := undef) rfl (by kernel_rfl) (by kernel_rfl) (by kernel_rfl) (fun _ _ _ h => h) (Or.inr ⟨by kernel_rfl, rfl⟩) (by assumption) ?_
              try simp only [Act.put, lay1, lay2, lay3, lay4, lay5, lay6]
              refine wpAnyH_take (i := 12) (v := undef) rfl (by kernel_rfl) (by kernel_rfl) (by kernel_rfl) (fun _ _ _ h => h) (Or.inr ⟨by kernel_rfl, rfl⟩) (by assumption) ?_
              try simp only [Act.put, lay1, lay2, lay3, lay4, lay5, lay6]
              refine wpAnyH_take (i := 13) (v := undef) rfl (by kernel_rfl) (by kernel_rfl) (by kernel_rfl) (fun _ _ _ h => h) (Or.inr ⟨by kernel_rfl, rfl⟩) (by assumption) ?_
              try simp only [Act.put, lay1, lay2, lay3, lay4, lay5, lay6]
              refine wpAnyH_take (i := 14) (v := undef) rfl (by kernel_rfl) (by kernel_rfl) (by kernel_rfl) (fun _ _ _ h => h) (Or.inr ⟨by kernel_rfl, rfl⟩) (by assumption) ?_
              try simp only [Act.put, lay1, lay2, lay3, lay4, lay5, lay6]
              refine wpAnyH_take (i := 15) (v := undef) rfl (by kernel_rfl) (by kernel_rfl) (by kernel_rfl) (fun _ _ _ h => h) (Or.inr ⟨by kernel_rfl, rfl⟩) (by assumption) ?_
              try simp only [Act.put, lay1, lay2, lay3, lay4, lay5, lay6]
              refine wpAnyH_take (i := 16) (v := undef) rfl (by kernel_rfl) (by kernel_rfl) (by kernel_rfl) (fun _ _ _ h => h) (Or.inr ⟨by kernel_rfl, rfl⟩) (by assumption) ?_
              try simp only [Act.put, lay1, lay2, lay3, lay4, lay5, lay6]
              refine wpAnyH_take (i := 17) (v := undef) rfl (by kernel_rfl) (by kernel_rfl) (by kernel_rfl) (fun _ _ _ h => h) (Or.inr ⟨by kernel_rfl, rfl⟩) (by assumption) ?_
              try simp only [Act.put, lay1, lay2, lay3, lay4, lay5, lay6]
              refine wpAnyH_take (i := 18) (v := undef) rfl (by kernel_rfl) (by kernel_rfl) (by kernel_rfl) (fun _ _ _ h => h) (Or.inr ⟨by kernel_rfl, rfl⟩) (by assumption) ?_
              try simp only [Act.put, lay1, lay2, lay3, lay4, lay5, lay6]
              refine wpAnyH_take (i := 19) (v := undef) rfl (by kernel_rfl) (by kernel_rfl) (by kernel_rfl) (fun _ _ _ h => h) (Or.inr ⟨by kernel_rfl, rfl⟩) (by assumption) ?_
              try simp only [Act.put, lay1, lay2, lay3, lay4, lay5, lay6]
              refine wpAnyH_take (i := 20) (v := undef) rfl (by kernel_rfl) (by kernel_rfl) (by kernel_rfl) (fun _ _ _ h => h) (Or.inr ⟨by kernel_rfl, rfl⟩) (by assumption) ?_
              try simp only [Act.put, lay1, lay2, lay3, lay4, lay5, lay6]
              refine wpAnyH_take (i := 21) (v := undef) rfl (by kernel_rfl) (by kernel_rfl) (by kernel_rfl) (fun _ _ _ h => h) (Or.inr ⟨by kernel_rfl, rfl⟩) (by assumption) ?_
              try simp only [Act.put, lay1, lay2, lay3, lay4, lay5, lay6]
              try dsimp only
              try simp only [Act.put, lay1, lay2, lay3, lay4, lay5, lay6]
              refine wpAnyH_take (i := 22) (v := undef) rfl (by kernel_rfl) (by kernel_rfl) (by kernel_rfl) (fun _ _ _ h => h) (Or.inr ⟨by kernel_rfl, rfl⟩) (by assumption) ?_
              try simp only [Act.put, lay1, lay2, lay3, lay4, lay5, lay6]
              try dsimp only
              try simp only [Act.put, lay1, lay2, lay3, lay4, lay5, lay6]
              refine wpAnyH_take (i := 23) (v := ?b8_v23) rfl (by kernel_rfl) (by kernel_rfl) (by kernel_rfl) (fun _ _ _ h => h) (Or.inl ⟨by kernel_rfl, ?b8_hy23⟩) (by assumption) ?b8_rest23
              case b8_hy23 => (intro w hSw; (try dsimp only at hSw); go_simp; try (with_reducible rfl))
              try simp only [Act.put, lay1, lay2, lay3, lay4, lay5, lay6]
              try dsimp only
              try simp only [Act.put, lay1, lay2, lay3, lay4, lay5, lay6]
              refine wpAnyH_done (by kernel_rfl) ?_ _
              refine NoPanic.normal ?_
              replace hx := hx.below d1
              replace hX := hX.below d1 hX.lt
              replace hKp := hKp.below d1 hKp.lt
              replace hbk := hbk.below d1
              replace hi1 := hi1.below d1
              replace hY := hY.below d1 hY.lt
              replace hB := hB.trans (d1.mono hB.size)
              clear c8_hX_0 c8_hX_1 c8_hX_2 c8_hX_3 c8_hX_4 c8_hX_5 c8_hKp_0 c8_hKp_1 c8_hKp_2 c8_hKp_3 c8_hY_0 c8_hY_1 c8_hY_2 c8_hY_3
              obtain ⟨c9_hX_0, c9_hX_1, c9_hX_2, c9_hX_3, c9_hX_4, c9_hX_5⟩ := hX.cells6
              obtain ⟨c9_hKp_0, c9_hKp_1, c9_hKp_2, c9_hKp_3⟩ := hKp.quad
              obtain ⟨c9_hY_0, c9_hY_1, c9_hY_2, c9_hY_3⟩ := hY.quad
              go_wp2
              go_ret
              exact ⟨congrArg (fun b => Ending.returned (Value.bool b)) HRES.out.symm, hB⟩
      · have hk5 : (k1 == 4) = false := by rw [beq_eq_false_iff_ne]; exact hk4
        have hk6 : decide (k1 = 4) = false := decide_eq_false hk4
        rw [if_neg hk4] at htop
        replace htop := htop.symm
        subst htop
        clear hk4
        go_wp2_with fail
        refine (hSt _).mono ?_
        rintro e w9 ⟨rfl, b9⟩
        replace hx := hx.below b9
        replace hX := hX.below b9 hX.lt
        replace hKp := hKp.below b9 hKp.lt
        replace hbk := hbk.below b9
        replace hi1 := hi1.below b9
        replace hY := hY.below b9 hY.lt
        replace hB := hB.trans (b9.mono hB.size)
        clear c7_hX_0 c7_hX_1 c7_hX_2 c7_hX_3 c7_hX_4 c7_hX_5 c7_hKp_0 c7_hKp_1 c7_hKp_2 c7_hKp_3 c7_hY_0 c7_hY_1 c7_hY_2 c7_hY_3
        obtain ⟨c8_hX_0, c8_hX_1, c8_hX_2, c8_hX_3, c8_hX_4, c8_hX_5⟩ := hX.cells6
        obtain ⟨c8_hKp_0, c8_hKp_1, c8_hKp_2, c8_hKp_3⟩ := hKp.quad
        obtain ⟨c8_hY_0, c8_hY_1, c8_hY_2, c8_hY_3⟩ := hY.quad
        replace hBr := bstep hBr b9
        generalize staysB m o (N : Int) sc = sb at *
        rcases sb with _ | _
        · rw [if_neg (by decide)] at hkk
          replace hkk := hkk.symm
          subst hkk
          generalize blkR k1 sc cs wd = br at *
          go_upto_region 12 with fail
          rcases br with _ | _
          · have hres : okTo k Z m o N bs (j + 1) = false := by rw [HS.out, HOK.out]; rfl
            have HRES := Lib.hid (okTo_le hres (show j + 1 ≤ bs.length by omega))
            clear hres
            refine wp_region_noPanic ?_
            refine wp_region_held_drew (S := fun w' => w'.cell? ⟨X1, 0, none⟩ = some (.int .i64 k1) ∧ w'.cell? ⟨X1, 1, none⟩ = some (.int .i64 sc) ∧ w'.cell? ⟨X1, 2, none⟩ = some (.slice P1 cs.length Q1) ∧ w'.cell? ⟨X1, 3, none⟩ = some (.slice P2 wd.length Q2) ∧ w'.cell? ⟨g + 1, 1, none⟩ = some (.int .i64 Z) ∧ w'.cell? ⟨g, 4, none⟩ = some (.int .i64 N)) (by kernel_rfl) ?_ (fun hHeld => ?_)
            · exact ⟨(hY.below (by first | assumption | exact bdrew _) hY.lt).cell 0, (hY.below (by first | assumption | exact bdrew _) hY.lt).cell 1, (hY.below (by first | assumption | exact bdrew _) hY.lt).cell 2, (hY.below (by first | assumption | exact bdrew _) hY.lt).cell 3, (hKp.below (by first | assumption | exact bdrew _) hKp.lt).cell 1, (hX.below (by first | assumption | exact bdrew _) hX.lt).cell 4⟩
            refine wpAnyH_take (i := 0) (v := ?b9_v0) rfl (by kernel_rfl) (by kernel_rfl) (by kernel_rfl) (fun _ _ _ h => h) (Or.inl ⟨by kernel_rfl, ?b9_hy0⟩) (by assumption) ?b9_rest0
            case b9_hy0 => (intro w hSw; (try dsimp only at hSw); go_simp; try (with_reducible rfl))
            try simp only [Act.put, lay1, lay2, lay3, lay4, lay5, lay6]
            refine wpAnyH_ready (rs := [1]) (by kernel_rfl) (by simp) ?_
            refine AllReadyH.cons rfl (fun K hK => ?_) AllReadyH.nil
            go_simp
            refine (hR _ _ (hbk.below (bdrew _))).mono ?_
            rintro e u1 ⟨rfl, d1⟩
            have d1 := bstep (bdrew w9) d1
            go_wp2_with fail
            refine hK.out _ _ ?_ (fun hHeld => ?_)
            · exact ⟨(hY.below (by first | assumption | exact bdrew _) hY.lt).cell 0, (hY.below (by first | assumption | exact bdrew _) hY.lt).cell 1, (hY.below (by first | assumption | exact bdrew _) hY.lt).cell 2, (hY.below (by first | assumption | exact bdrew _) hY.lt).cell 3, (hKp.below (by first | assumption | exact bdrew _) hKp.lt).cell 1, (hX.below (by first | assumption | exact bdrew _) hX.lt).cell 4⟩
            clear hK K
            try simp only [Act.put, lay1, lay2, lay3, lay4, lay5, lay6]
            refine wpAnyH_take (i := 2) (v := ?b9_v2) rfl (by kernel_rfl) (by kernel_rfl) (by kernel_rfl) (fun _ _ _ h => h) (Or.inl ⟨by kernel_rfl, ?b9_hy2⟩) (by assumption) ?b9_rest2
            case b9_hy2 => (intro w hSw; (try dsimp only at hSw); go_simp; try (with_reducible rfl))
            try simp only [Act.put, lay1, lay2, lay3, lay4, lay5, lay6]
            refine wpAnyH_take (i := 3) (v := ?b9_v3) rfl (by kernel_rfl) (by kernel_rfl) (by kernel_rfl) (fun _ _ _ h => h) (Or.inl ⟨by kernel_rfl, ?b9_hy3⟩) (by assumption) ?b9_rest3
            case b9_hy3 => (intro w hSw; (try dsimp only at hSw); go_simp; try (with_reducible rfl))
            try simp only [Act.put, lay1, lay2, lay3, lay4, lay5, lay6]
            refine wpAnyH_take (i := 4) (v := undef) rfl (by kernel_rfl) (by kernel_rfl) (by kernel_rfl) (fun _ _ _ h => h) (Or.inr ⟨by kernel_rfl, rfl⟩) (by assumption) ?_
            try simp only [Act.put, lay1, lay2, lay3, lay4, lay5, lay6]
            refine wpAnyH_take (i := 5) (v := undef) rfl (by kernel_rfl) (by kernel_rfl) (by kernel_rfl) (fun _ _ _ h => h) (Or.inr ⟨by kernel_rfl, rfl⟩) (by assumption) ?_
            try simp only [Act.put, lay1, lay2, lay3, lay4, lay5, lay6]
            refine wpAnyH_take (i := 6) (v := undef) rfl (by kernel_rfl) (by kernel_rfl) (by kernel_rfl) (fun _ _ _ h => h) (Or.inr ⟨by kernel_rfl, rfl⟩) (by assumption) ?_
            try simp only [Act.put, lay1, lay2, lay3, lay4, lay5, lay6]
            refine wpAnyH_take (i := 7) (v := undef) rfl (by kernel_rfl) (by kernel_rfl) (by kernel_rfl) (fun _ _ _ h => h) (Or.inr ⟨by kernel_rfl, rfl⟩) (by assumption) ?_
            try simp only [Act.put, lay1, lay2, lay3, lay4, lay5, lay6]
            refine wpAnyH_take (i := 8) (v := ?b9_v8) rfl (by kernel_rfl) (by kernel_rfl) (by kernel_rfl) (fun _ _ _ h => h) (Or.inl ⟨by kernel_rfl, ?b9_hy8⟩) (by assumption) ?b9_rest8
            case b9_hy8 => (intro w hSw; (try dsimp only at hSw); go_simp; try (with_reducible rfl))
            try simp only [Act.put, lay1, lay2, lay3, lay4, lay5, lay6]
            refine wpAnyH_take (i := 9) (v := ?b9_v9) rfl (by kernel_rfl) (by kernel_rfl) (by kernel_rfl) (fun _ _ _ h => h) (Or.inl ⟨by kernel_rfl, ?b9_hy9⟩) (by assumption) ?b9_rest9
            case b9_hy9 => (intro w hSw; (try dsimp only at hSw); go_simp; try (with_reducible rfl))
            try simp only [Act.put, lay1, lay2, lay3, lay4, lay5, lay6]
            refine wpAnyH_take (i := 10) (v := undef) rfl (by kernel_rfl) (by kernel_rfl) (by kernel_rfl) (fun _ _ _ h => h) (Or.inr ⟨by kernel_rfl, rfl⟩) (by assumption) ?_
            try simp only [Act.put, lay1, lay2, lay3, lay4, lay5, lay6]
            refine wpAnyH_take (i := 11) (v := undef) rfl (by kernel_rfl) (by kernel_rfl) (by kernel_rfl) (fun _ _ _ h => h) (Or.inr ⟨by kernel_rfl, rfl⟩) (by assumption) ?_
            try simp only [Act.put, lay1, lay2, lay3, lay4, lay5, lay6]
            refine wpAnyH_take (i := 12) (v := undef) rfl (by kernel_rfl) (by kernel_rfl) (by kernel_rfl) (fun _ _ _ h => h) (Or.inr ⟨by kernel_rfl, rfl⟩) (by assumption) ?_
            try simp only [Act.put, lay1, lay2, lay3, lay4, lay5, lay6]
            refine wpAnyH_take (i := 13) (v := undef) rfl (by kernel_rfl) (by kernel_rfl) (by kernel_rfl) (fun _ _ _ h => h) (Or.inr ⟨by kernel_rfl, rfl⟩) (by assumption) ?_
            try simp only [Act.put, lay1, lay2, lay3, lay4, lay5, lay6]
            refine wpAnyH_take (i := 14) (v := undef) rfl (by kernel_rfl) (by kernel_rfl) (by kernel_rfl) (fun _ _ _ h => h) (Or.inr ⟨by kernel_rfl, rfl⟩) (by assumption) ?_
            try simp only [Act.put, lay1, lay2, lay3, lay4, lay5, lay6]
            refine wpAnyH_take (i := 15) (v := undef) rfl (by kernel_rfl) (by kernel_rfl) (by kernel_rfl) (fun _ _ _ h => h) (Or.inr ⟨by kernel_rfl, rfl⟩) (by assumption) ?_
            try simp only [Act.put, lay1, lay2, lay3, lay4, lay5, lay6]
            refine wpAnyH_take (i := 16) (v := undef) rfl (by kernel_rfl) (by kernel_rfl) (by kernel_rfl) (fun _ _ _ h => h) (Or.inr ⟨by kernel_rfl, rfl⟩) (by assumption) ?_
            try simp only [Act.put, lay1, lay2, lay3, lay4, lay5, lay6]
            refine wpAnyH_take (i := 17) (v := undef) rfl (by kernel_rfl) (by kernel_rfl) (by kernel_rfl) (fun _ _ _ h => h) (Or.inr ⟨by kernel_rfl, rfl⟩) (by assumption) ?_
            try simp only [Act.put, lay1, lay2, lay3, lay4, lay5, lay6]
            refine wpAnyH_take (i := 18) (v := undef) rfl (by kernel_rfl) (by kernel_rfl) (by kernel_rfl) (fun _ _ _ h => h) (Or.inr ⟨by kernel_rfl, rfl⟩) (by assumption) ?_
            try simp only [Act.put, lay1, lay2, lay3, lay4, lay5, lay6]
            refine wpAnyH_take (i := 19) (v := undef) rfl (by kernel_rfl) (by kernel_rfl) (by kernel_rfl) (fun _ _ _ h => h) (Or.inr ⟨by kernel_rfl, rfl⟩) (by assumption) ?_
            try simp only [Act.put, lay1, lay2, lay3, lay4, lay5, lay6]
            refine wpAnyH_take (i := 20) (v := undef) rfl (by kernel_rfl) (by kernel_rfl) (by kernel_rfl) (fun _ _ _ h => h) (Or.inr ⟨by kernel_rfl, rfl⟩) (by assumption) ?_
            try simp only [Act.put, lay1, lay2, lay3, lay4, lay5, lay6]
            refine wpAnyH_take (i := 21) (v := undef) rfl (by kernel_rfl) (by kernel_rfl) (by kernel_rfl) (fun _ _ _ h => h) (Or.inr ⟨by kernel_rfl, rfl⟩) (by assumption) ?_
            try simp only [Act.put, lay1, lay2, lay3, lay4, lay5, lay6]
            try dsimp only
            try simp only [Act.put, lay1, lay2, lay3, lay4, lay5, lay6]
            refine wpAnyH_take (i := 22) (v := undef) rfl (by kernel_rfl) (by kernel_rfl) (by kernel_rfl) (fun _ _ _ h => h) (Or.inr ⟨by kernel_rfl, rfl⟩) (by assumption) ?_
            try simp only [Act.put, lay1, lay2, lay3, lay4, lay5, lay6]
            try dsimp only
            try simp only [Act.put, lay1, lay2, lay3, lay4, lay5, lay6]
            refine wpAnyH_take (i := 23) (v := ?b9_v23) rfl (by kernel_rfl) (by kernel_rfl) (by kernel_rfl) (fun _ _ _ h => h) (Or.inl ⟨by kernel_rfl, ?b9_hy23⟩) (by assumption) ?b9_rest23
            case b9_hy23 => (intro w hSw; (try dsimp only at hSw); go_simp; try (with_reducible rfl))
            try simp only [Act.put, lay1, lay2, lay3, lay4, lay5, lay6]
            try dsimp only
            try simp only [Act.put, lay1, lay2, lay3, lay4, lay5, lay6]
            refine wpAnyH_done (by kernel_rfl) ?_ _
            refine NoPanic.normal ?_
            replace hx := hx.below d1
            replace hX := hX.below d1 hX.lt
            replace hKp := hKp.below d1 hKp.lt
            replace hbk := hbk.below d1
            replace hi1 := hi1.below d1
            replace hY := hY.below d1 hY.lt
            replace hB := hB.trans (d1.mono hB.size)
            clear c8_hX_0 c8_hX_1 c8_hX_2 c8_hX_3 c8_hX_4 c8_hX_5 c8_hKp_0 c8_hKp_1 c8_hKp_2 c8_hKp_3 c8_hY_0 c8_hY_1 c8_hY_2 c8_hY_3
            obtain ⟨c9_hX_0, c9_hX_1, c9_hX_2, c9_hX_3, c9_hX_4, c9_hX_5⟩ := hX.cells6
            obtain ⟨c9_hKp_0, c9_hKp_1, c9_hKp_2, c9_hKp_3⟩ := hKp.quad
            obtain ⟨c9_hY_0, c9_hY_1, c9_hY_2, c9_hY_3⟩ := hY.quad
            go_wp2
            go_ret
            exact ⟨congrArg (fun b => Ending.returned (Value.bool b)) HRES.out.symm, hB⟩
          · by_cases hke : k1 = k
            · by_cases hle : ln = min (Z : Int) d
              · have h1 : (k1 != k) = false := by rw [hke]; simp
                have h1' : decide (k1 = k) = true := decide_eq_true hke
                have h2 : (ln != min (Z : Int) d) = false := by rw [hle]; simp
                have h2' : decide (ln = min (Z : Int) d) = true := decide_eq_true hle
                have hres : okTo k Z m o N bs (j + 1) = true := by rw [HS.out, HOK.out, h1', h2']; rfl
                have HRES := Lib.hid hres
                clear hres hke hle
                refine wp_region_noPanic ?_
                refine wp_region_held_drew (S := fun w' => w'.cell? ⟨X1, 0, none⟩ = some (.int .i64 k1) ∧ w'.cell? ⟨X1, 1, none⟩ = some (.int .i64 sc) ∧ w'.cell? ⟨X1, 2, none⟩ = some (.slice P1 cs.length Q1) ∧ w'.cell? ⟨X1, 3, none⟩ = some (.slice P2 wd.length Q2) ∧ w'.cell? ⟨g + 1, 1, none⟩ = some (.int .i64 Z) ∧ w'.cell? ⟨g, 4, none⟩ = some (.int .i64 N)) (by kernel_rfl) ?_ (fun hHeld => ?_)
                · exact ⟨(hY.below (by first | assumption | exact bdrew _) hY.lt).cell 0, (hY.below (by first | assumption | exact bdrew _) hY.lt).cell 1, (hY.below (by first | assumption | exact bdrew _) hY.lt).cell 2, (hY.below (by first | assumption | exact bdrew _) hY.lt).cell 3, (hKp.below (by first | assumption | exact bdrew _) hKp.lt).cell 1, (hX.below (by first | assumption | exact bdrew _) hX.lt).cell 4⟩
                refine wpAnyH_take (i := 0) (v := ?b10_v0) rfl (by kernel_rfl) (by kernel_rfl) (by kernel_rfl) (fun _ _ _ h => h) (Or.inl ⟨by kernel_rfl, ?b10_hy0⟩) (by assumption) ?b10_rest0
                case b10_hy0 => (intro w hSw; (try dsimp only at hSw); go_simp; try (with_reducible rfl))
                try simp only [Act.put, lay1, lay2, lay3, lay4, lay5, lay6]
                refine wpAnyH_ready (rs := [1]) (by kernel_rfl) (by simp) ?_
                refine AllReadyH.cons rfl (fun K hK => ?_) AllReadyH.nil
                go_simp
                refine (hR _ _ (hbk.below (bdrew _))).mono ?_
                rintro e u1 ⟨rfl, d1⟩
                have d1 := bstep (bdrew w9) d1
                go_wp2_with fail
                refine hK.out _ _ ?_ (fun hHeld => ?_)
                · exact ⟨(hY.below (by first | assumption | exact bdrew _) hY.lt).cell 0, (hY.below (by first | assumption | exact bdrew _) hY.lt).cell 1, (hY.below (by first | assumption | exact bdrew _) hY.lt).cell 2, (hY.below (by first | assumption | exact bdrew _) hY.lt).cell 3, (hKp.below (by first | assumption | exact bdrew _) hKp.lt).cell 1, (hX.below (by first | assumption | exact bdrew _) hX.lt).cell 4⟩
                clear hK K
                try simp only [Act.put, lay1, lay2, lay3, lay4, lay5, lay6]
                refine wpAnyH_take (i := 2) (v := ?b10_v2) rfl (by kernel_rfl) (by kernel_rfl) (by kernel_rfl) (fun _ _ _ h => h) (Or.inl ⟨by kernel_rfl, ?b10_hy2⟩) (by assumption) ?b10_rest2
                case b10_hy2 => (intro w hSw; (try dsimp only at hSw); go_simp; try (with_reducible rfl))
                try simp only [Act.put, lay1, lay2, lay3, lay4, lay5, lay6]
                refine wpAnyH_take (i := 3) (v := ?b10_v3) rfl (by kernel_rfl) (by kernel_rfl) (by kernel_rfl) (fun _ _ _ h => h) (Or.inl ⟨by kernel_rfl, ?b10_hy3⟩) (by assumption) ?b10_rest3
                case b10_hy3 => (intro w hSw; (try dsimp only at hSw); go_simp; try (with_reducible rfl))
                try simp only [Act.put, lay1, lay2, lay3, lay4, lay5, lay6]
                refine wpAnyH_take (i := 4) (v := ?b10_v4) rfl (by kernel_rfl) (by kernel_rfl) (by kernel_rfl) (fun _ _ _ h => h) (Or.inl ⟨by kernel_rfl, ?b10_hy4⟩) (by assumption) ?b10_rest4
                case b10_hy4 => (intro w hSw; (try dsimp only at hSw); go_simp; try (with_reducible rfl))
                try simp only [Act.put, lay1, lay2, lay3, lay4, lay5, lay6]
                refine wpAnyH_take (i := 5) (v := ?b10_v5) rfl (by kernel_rfl) (by kernel_rfl) (by kernel_rfl) (fun _ _ _ h => h) (Or.inl ⟨by kernel_rfl, ?b10_hy5⟩) (by assumption) ?b10_rest5
                case b10_hy5 => (intro w hSw; (try dsimp only at hSw); go_simp; try (with_reducible rfl))
                try simp only [Act.put, lay1, lay2, lay3, lay4, lay5, lay6]
                refine wpAnyH_take (i := 6) (v := ?b10_v6) rfl (by kernel_rfl) (by kernel_rfl) (by kernel_rfl) (fun _ _ _ h => h) (Or.inl ⟨by kernel_rfl, ?b10_hy6⟩) (by assumption) ?b10_rest6
                case b10_hy6 => (intro w hSw; (try dsimp only at hSw); go_simp; try (with_reducible rfl))
                try simp only [Act.put, lay1, lay2, lay3, lay4, lay5, lay6]
                refine wpAnyH_take (i := 7) (v := ?b10_v7) rfl (by kernel_rfl) (by kernel_rfl) (by kernel_rfl) (fun _ _ _ h => h) (Or.inl ⟨by kernel_rfl, ?b10_hy7⟩) (by assumption) ?b10_rest7
                case b10_hy7 => (intro w hSw; (try dsimp only at hSw); go_simp; try (with_reducible rfl))
                try simp only [Act.put, lay1, lay2, lay3, lay4, lay5, lay6]
                refine wpAnyH_take (i := 8) (v := ?b10_v8) rfl (by kernel_rfl) (by kernel_rfl) (by kernel_rfl) (fun _ _ _ h => h) (Or.inl ⟨by kernel_rfl, ?b10_hy8⟩) (by assumption) ?b10_rest8
                case b10_hy8 => (intro w hSw; (try dsimp only at hSw); go_simp; try (with_reducible rfl))
                try simp only [Act.put, lay1, lay2, lay3, lay4, lay5, lay6]
                refine wpAnyH_take (i := 9) (v := ?b10_v9) rfl (by kernel_rfl) (by kernel_rfl) (by kernel_rfl) (fun _ _ _ h => h) (Or.inl ⟨by kernel_rfl, ?b10_hy9⟩) (by assumption) ?b10_rest9
                case b10_hy9 => (intro w hSw; (try dsimp only at hSw); go_simp; try (with_reducible rfl))
                try simp only [Act.put, lay1, lay2, lay3, lay4, lay5, lay6]
                refine wpAnyH_take (i := 10) (v := ?b10_v10) rfl (by kernel_rfl) (by kernel_rfl) (by kernel_rfl) (fun _ _ _ h => h) (Or.inl ⟨by kernel_rfl, ?b10_hy10⟩) (by assumption) ?b10_rest10
                case b10_hy10 => (intro w hSw; (try dsimp only at hSw); go_simp; try (with_reducible rfl))
                try simp only [Act.put, lay1, lay2, lay3, lay4, lay5, lay6]
                refine wpAnyH_take (i := 12) (v := ?b10_v12) rfl (by kernel_rfl) (by kernel_rfl) (by kernel_rfl) (fun _ _ _ h => h) (Or.inl ⟨by kernel_rfl, ?b10_hy12⟩) (by assumption) ?b10_rest12
                case b10_hy12 => (intro w hSw; (try dsimp only at hSw); go_simp; try (with_reducible rfl))
                try simp only [Act.put, lay1, lay2, lay3, lay4, lay5, lay6]
                refine wpAnyH_take (i := 13) (v := ?b10_v13) rfl (by kernel_rfl) (by kernel_rfl) (by kernel_rfl) (fun _ _ _ h => h) (Or.inl ⟨by kernel_rfl, ?b10_hy13⟩) (by assumption) ?b10_rest13
                case b10_hy13 => (intro w hSw; (try dsimp only at hSw); go_simp; try (with_reducible rfl))
                try simp only [Act.put, lay1, lay2, lay3, lay4, lay5, lay6]
                refine wpAnyH_take (i := 14) (v := ?b10_v14) rfl (by kernel_rfl) (by kernel_rfl) (by kernel_rfl) (fun _ _ _ h => h) (Or.inl ⟨by kernel_rfl, ?b10_hy14⟩) (by assumption) ?b10_rest14
                case b10_hy14 => (intro w hSw; (try dsimp only at hSw); go_simp; try (with_reducible rfl))
                try simp only [Act.put, lay1, lay2, lay3, lay4, lay5, lay6]
                refine wpAnyH_take (i := 15) (v := ?b10_v15) rfl (by kernel_rfl) (by kernel_rfl) (by kernel_rfl) (fun _ _ _ h => h) (Or.inl ⟨by kernel_rfl, ?b10_hy15⟩) (by assumption) ?b10_rest15
                case b10_hy15 => (intro w hSw; (try dsimp only at hSw); go_simp; try (with_reducible rfl))
                try simp only [Act.put, lay1, lay2, lay3, lay4, lay5, lay6]
                refine wpAnyH_take (i := 16) (v := ?b10_v16) rfl (by kernel_rfl) (by kernel_rfl) (by kernel_rfl) (fun _ _ _ h => h) (Or.inl ⟨by kernel_rfl, ?b10_hy16⟩) (by assumption) ?b10_rest16
                case b10_hy16 => (intro w hSw; (try dsimp only at hSw); go_simp; try (with_reducible rfl))
                try simp only [Act.put, lay1, lay2, lay3, lay4, lay5, lay6]
                refine wpAnyH_take (i := 17) (v := ?b10_v17) rfl (by kernel_rfl) (by kernel_rfl) (by kernel_rfl) (fun _ _ _ h => h) (Or.inl ⟨by kernel_rfl, ?b10_hy17⟩) (by assumption) ?b10_rest17
                case b10_hy17 => (intro w hSw; (try dsimp only at hSw); go_simp; try (with_reducible rfl))
                try simp only [Act.put, lay1, lay2, lay3, lay4, lay5, lay6]
                refine wpAnyH_take (i := 18) (v := ?b10_v18) rfl (by kernel_rfl) (by kernel_rfl) (by kernel_rfl) (fun _ _ _ h => h) (Or.inl ⟨by kernel_rfl, ?b10_hy18⟩) (by assumption) ?b10_rest18
                case b10_hy18 => (intro w hSw; (try dsimp only at hSw); go_simp; try (with_reducible rfl))
                try simp only [Act.put, lay1, lay2, lay3, lay4, lay5, lay6]
                refine wpAnyH_take (i := 19) (v := ?b10_v19) rfl (by kernel_rfl) (by kernel_rfl) (by kernel_rfl) (fun _ _ _ h => h) (Or.inl ⟨by kernel_rfl, ?b10_hy19⟩) (by assumption) ?b10_rest19
                case b10_hy19 => (intro w hSw; (try dsimp only at hSw); go_simp; try (with_reducible rfl))
                try simp only [Act.put, lay1, lay2, lay3, lay4, lay5, lay6]
                refine wpAnyH_take (i := 20) (v := ?b10_v20) rfl (by kernel_rfl) (by kernel_rfl) (by kernel_rfl) (fun _ _ _ h => h) (Or.inl ⟨by kernel_rfl, ?b10_hy20⟩) (by assumption) ?b10_rest20
                case b10_hy20 => (intro w hSw; (try dsimp only at hSw); go_simp; try (with_reducible rfl))
                try simp only [Act.put, lay1, lay2, lay3, lay4, lay5, lay6]
                refine wpAnyH_take (i := 21) (v := ?b10_v21) rfl (by kernel_rfl) (by kernel_rfl) (by kernel_rfl) (fun _ _ _ h => h) (Or.inl ⟨by kernel_rfl, ?b10_hy21⟩) (by assumption) ?b10_rest21
                case b10_hy21 => (intro w hSw; (try dsimp only at hSw); go_simp; try (with_reducible rfl))
                try simp only [Act.put, lay1, lay2, lay3, lay4, lay5, lay6]
                refine wpAnyH_ready (rs := [11]) (by kernel_rfl) (by simp) ?_
                refine AllReadyH.cons rfl (fun K hK => ?_) AllReadyH.nil
                go_simp
                refine (hLn _ _ (hbk.below d1)).mono ?_
                rintro e u2 ⟨rfl, d2⟩
                have d2 := bstep d1 d2
                go_wp2_with fail
                refine hK.out _ _ ?_ (fun hHeld => ?_)
                · exact ⟨(hY.below (by first | assumption | exact bdrew _) hY.lt).cell 0, (hY.below (by first | assumption | exact bdrew _) hY.lt).cell 1, (hY.below (by first | assumption | exact bdrew _) hY.lt).cell 2, (hY.below (by first | assumption | exact bdrew _) hY.lt).cell 3, (hKp.below (by first | assumption | exact bdrew _) hKp.lt).cell 1, (hX.below (by first | assumption | exact bdrew _) hX.lt).cell 4⟩
                clear hK K
                try simp only [Act.put, lay1, lay2, lay3, lay4, lay5, lay6]
                try dsimp only
                try simp only [Act.put, lay1, lay2, lay3, lay4, lay5, lay6]
                refine wpAnyH_take (i := 22) (v := ?b10_v22) rfl (by kernel_rfl) (by kernel_rfl) (by kernel_rfl) (fun _ _ _ h => h) (Or.inl ⟨by kernel_rfl, ?b10_hy22⟩) (by assumption) ?b10_rest22
                case b10_hy22 => (intro w hSw; (try dsimp only at hSw); go_simp; try (with_reducible rfl))
                try simp only [Act.put, lay1, lay2, lay3, lay4, lay5, lay6]
                try dsimp only
                try simp only [Act.put, lay1, lay2, lay3, lay4, lay5, lay6]
                refine wpAnyH_take (i := 23) (v := ?b10_v23) rfl (by kernel_rfl) (by kernel_rfl) (by kernel_rfl) (fun _ _ _ h => h) (Or.inl ⟨by kernel_rfl, ?b10_hy23⟩) (by assumption) ?b10_rest23
                case b10_hy23 => (intro w hSw; (try dsimp only at hSw); go_simp; try (with_reducible rfl))
                try simp only [Act.put, lay1, lay2, lay3, lay4, lay5, lay6]
                try dsimp only
                try simp only [Act.put, lay1, lay2, lay3, lay4, lay5, lay6]
                refine wpAnyH_done (by kernel_rfl) ?_ _
                refine NoPanic.normal ?_
                replace hx := hx.below d2
                replace hX := hX.below d2 hX.lt
                replace hKp := hKp.below d2 hKp.lt
                replace hbk := hbk.below d2
                replace hi1 := hi1.below d2
                replace hY := hY.below d2 hY.lt
                replace hB := hB.trans (d2.mono hB.size)
                clear c8_hX_0 c8_hX_1 c8_hX_2 c8_hX_3 c8_hX_4 c8_hX_5 c8_hKp_0 c8_hKp_1 c8_hKp_2 c8_hKp_3 c8_hY_0 c8_hY_1 c8_hY_2 c8_hY_3
                obtain ⟨c9_hX_0, c9_hX_1, c9_hX_2, c9_hX_3, c9_hX_4, c9_hX_5⟩ := hX.cells6
                obtain ⟨c9_hKp_0, c9_hKp_1, c9_hKp_2, c9_hKp_3⟩ := hKp.quad
                obtain ⟨c9_hY_0, c9_hY_1, c9_hY_2, c9_hY_3⟩ := hY.quad
                go_wp2
                exact ⟨⟨j + 1, by go_num, by omega, HRES, bl.trans ((show Below wr.heap.size wr _ from bstep hBr d2).mono bl.size)⟩, by simp [intOf]; omega⟩
              · have h1 : (k1 != k) = false := by rw [hke]; simp
                have h1' : decide (k1 = k) = true := decide_eq_true hke
                have h2 : (ln != min (Z : Int) d) = true := by rw [bne_iff_ne]; exact hle
                have h2' : decide (ln = min (Z : Int) d) = false := decide_eq_false hle
                have hres : okTo k Z m o N bs (j + 1) = false := by rw [HS.out, HOK.out, h1', h2']; rfl
                have HRES := Lib.hid hres
                clear hres hke hle
                refine wp_region_noPanic ?_
                refine wp_region_held_drew (S := fun w' => w'.cell? ⟨X1, 0, none⟩ = some (.int .i64 k1) ∧ w'.cell? ⟨X1, 1, none⟩ = some (.int .i64 sc) ∧ w'.cell? ⟨X1, 2, none⟩ = some (.slice P1 cs.length Q1) ∧ w'.cell? ⟨X1, 3, none⟩ = some (.slice P2 wd.length Q2) ∧ w'.cell? ⟨g + 1, 1, none⟩ = some (.int .i64 Z) ∧ w'.cell? ⟨g, 4, none⟩ = some (.int .i64 N)) (by kernel_rfl) ?_ (fun hHeld => ?_)
                · exact ⟨(hY.below (by first | assumption | exact bdrew _) hY.lt).cell 0, (hY.below (by first | assumption | exact bdrew _) hY.lt).cell 1, (hY.below (by first | assumption | exact bdrew _) hY.lt).cell 2, (hY.below (by first | assumption | exact bdrew _) hY.lt).cell 3, (hKp.below (by first | assumption | exact bdrew _) hKp.lt).cell 1, (hX.below (by first | assumption | exact bdrew _) hX.lt).cell 4⟩
                refine wpAnyH_take (i := 0) (v := ?b11_v0) rfl (by kernel_rfl) (by kernel_rfl) (by kernel_rfl) (fun _ _ _ h => h) (Or.inl ⟨by kernel_rfl, ?b11_hy0⟩) (by assumption) ?b11_rest0
                case b11_hy0 => (intro w hSw; (try dsimp only at hSw); go_simp; try (with_reducible rfl))
                try simp only [Act.put, lay1, lay2, lay3, lay4, lay5, lay6]
                refine wpAnyH_ready (rs := [1]) (by kernel_rfl) (by simp) ?_
                refine AllReadyH.cons rfl (fun K hK => ?_) AllReadyH.nil
                go_simp
                refine (hR _ _ (hbk.below (bdrew _))).mono ?_
                rintro e u1 ⟨rfl, d1⟩
                have d1 := bstep (bdrew w9) d1
                go_wp2_with fail
                refine hK.out _ _ ?_ (fun hHeld => ?_)
                · exact ⟨(hY.below (by first | assumption | exact bdrew _) hY.lt).cell 0, (hY.below (by first | assumption | exact bdrew _) hY.lt).cell 1, (hY.below (by first | assumption | exact bdrew _) hY.lt).cell 2, (hY.below (by first | assumption | exact bdrew _) hY.lt).cell 3, (hKp.below (by first | assumption | exact bdrew _) hKp.lt).cell 1, (hX.below (by first | assumption | exact bdrew _) hX.lt).cell 4⟩
                clear hK K
                try simp only [Act.put, lay1, lay2, lay3, lay4, lay5, lay6]
                refine wpAnyH_take (i := 2) (v := ?b11_v2) rfl (by kernel_rfl) (by kernel_rfl) (by kernel_rfl) (fun _ _ _ h => h) (Or.inl ⟨by kernel_rfl, ?b11_hy2⟩) (by assumption) ?b11_rest2
                case b11_hy2 => (intro w hSw; (try dsimp only at hSw); go_simp; try (with_reducible rfl))
                try simp only [Act.put, lay1, lay2, lay3, lay4, lay5, lay6]
                refine wpAnyH_take (i := 3) (v := ?b11_v3) rfl (by kernel_rfl) (by kernel_rfl) (by kernel_rfl) (fun _ _ _ h => h) (Or.inl ⟨by kernel_rfl, ?b11_hy3⟩) (by assumption) ?b11_rest3
                case b11_hy3 => (intro w hSw; (try dsimp only at hSw); go_simp; try (with_reducible rfl))
                try simp only [Act.put, lay1, lay2, lay3, lay4, lay5, lay6]
                refine wpAnyH_take (i := 4) (v := ?b11_v4) rfl (by kernel_rfl) (by kernel_rfl) (by kernel_rfl) (fun _ _ _ h => h) (Or.inl ⟨by kernel_rfl, ?b11_hy4⟩) (by assumption) ?b11_rest4
                case b11_hy4 => (intro w hSw; (try dsimp only at hSw); go_simp; try (with_reducible rfl))
                try simp only [Act.put, lay1, lay2, lay3, lay4, lay5, lay6]
                refine wpAnyH_take (i := 5) (v := ?b11_v5) rfl (by kernel_rfl) (by kernel_rfl) (by kernel_rfl) (fun _ _ _ h => h) (Or.inl ⟨by kernel_rfl, ?b11_hy5⟩) (by assumption) ?b11_rest5
                case b11_hy5 => (intro w hSw; (try dsimp only at hSw); go_simp; try (with_reducible rfl))
                try simp only [Act.put, lay1, lay2, lay3, lay4, lay5, lay6]
                refine wpAnyH_take (i := 6) (v := ?b11_v6) rfl (by kernel_rfl) (by kernel_rfl) (by kernel_rfl) (fun _ _ _ h => h) (Or.inl ⟨by kernel_rfl, ?b11_hy6⟩) (by assumption) ?b11_rest6
                case b11_hy6 => (intro w hSw; (try dsimp only at hSw); go_simp; try (with_reducible rfl))
                try simp only [Act.put, lay1, lay2, lay3, lay4, lay5, lay6]
                refine wpAnyH_take (i := 7) (v := ?b11_v7) rfl (by kernel_rfl) (by kernel_rfl) (by kernel_rfl) (fun _ _ _ h => h) (Or.inl ⟨by kernel_rfl, ?b11_hy7⟩) (by assumption) ?b11_rest7
                case b11_hy7 => (intro w hSw; (try dsimp only at hSw); go_simp; try (with_reducible rfl))
                try simp only [Act.put, lay1, lay2, lay3, lay4, lay5, lay6]
                refine wpAnyH_take (i := 8) (v := ?b11_v8) rfl (by kernel_rfl) (by kernel_rfl) (by kernel_rfl) (fun _ _ _ h => h) (Or.inl ⟨by kernel_rfl, ?b11_hy8⟩) (by assumption) ?b11_rest8
                case b11_hy8 => (intro w hSw; (try dsimp only at hSw); go_simp; try (with_reducible rfl))
                try simp only [Act.put, lay1, lay2, lay3, lay4, lay5, lay6]
                refine wpAnyH_take (i := 9) (v := ?b11_v9) rfl (by kernel_rfl) (by kernel_rfl) (by kernel_rfl) (fun _ _ _ h => h) (Or.inl ⟨by kernel_rfl, ?b11_hy9⟩) (by assumption) ?b11_rest9
                case b11_hy9 => (intro w hSw; (try dsimp only at hSw); go_simp; try (with_reducible rfl))
                try simp only [Act.put, lay1, lay2, lay3, lay4, lay5, lay6]
                refine wpAnyH_take (i := 10) (v := ?b11_v10) rfl (by kernel_rfl) (by kernel_rfl) (by kernel_rfl) (fun _ _ _ h => h) (Or.inl ⟨by kernel_rfl, ?b11_hy10⟩) (by assumption) ?b11_rest10
                case b11_hy10 => (intro w hSw; (try dsimp only at hSw); go_simp; try (with_reducible rfl))
                try simp only [Act.put, lay1, lay2, lay3, lay4, lay5, lay6]
                refine wpAnyH_take (i := 12) (v := ?b11_v12) rfl (by kernel_rfl) (by kernel_rfl) (by kernel_rfl) (fun _ _ _ h => h) (Or.inl ⟨by kernel_rfl, ?b11_hy12⟩) (by assumption) ?b11_rest12
                case b11_hy12 => (intro w hSw; (try dsimp only at hSw); go_simp; try (with_reducible rfl))
                try simp only [Act.put, lay1, lay2, lay3, lay4, lay5, lay6]
                refine wpAnyH_take (i := 13) (v := ?b11_v13) rfl (by kernel_rfl) (by kernel_rfl) (by kernel_rfl) (fun _ _ _ h => h) (Or.inl ⟨by kernel_rfl, ?b11_hy13⟩) (by assumption) ?b11_rest13
                case b11_hy13 => (intro w hSw; (try dsimp only at hSw); go_simp; try (with_reducible rfl))
                try simp only [Act.put, lay1, lay2, lay3, lay4, lay5, lay6]
                refine wpAnyH_take (i := 14) (v := ?b11_v14) rfl (by kernel_rfl) (by kernel_rfl) (by kernel_rfl) (fun _ _ _ h => h) (Or.inl ⟨by kernel_rfl, ?b11_hy14⟩) (by assumption) ?b11_rest14
                case b11_hy14 => (intro w hSw; (try dsimp only at hSw); go_simp; try (with_reducible rfl))
                try simp only [Act.put, lay1, lay2, lay3, lay4, lay5, lay6]
                refine wpAnyH_take (i := 15) (v := ?b11_v15) rfl (by kernel_rfl) (by kernel_rfl) (by kernel_rfl) (fun _ _ _ h => h) (Or.inl ⟨by kernel_rfl, ?b11_hy15⟩) (by assumption) ?b11_rest15
                case b11_hy15 => (intro w hSw; (try dsimp only at hSw); go_simp; try (with_reducible rfl))
                try simp only [Act.put, lay1, lay2, lay3, lay4, lay5, lay6]
                refine wpAnyH_take (i := 16) (v := ?b11_v16) rfl (by kernel_rfl) (by kernel_rfl) (by kernel_rfl) (fun _ _ _ h => h) (Or.inl ⟨by kernel_rfl, ?b11_hy16⟩) (by assumption) ?b11_rest16
                case b11_hy16 => (intro w hSw; (try dsimp only at hSw); go_simp; try (with_reducible rfl))
                try simp only [Act.put, lay1, lay2, lay3, lay4, lay5, lay6]
                refine wpAnyH_take (i := 17) (v := ?b11_v17) rfl (by kernel_rfl) (by kernel_rfl) (by kernel_rfl) (fun _ _ _ h => h) (Or.inl ⟨by kernel_rfl, ?b11_hy17⟩) (by assumption) ?b11_rest17
                case b11_hy17 => (intro w hSw; (try dsimp only at hSw); go_simp; try (with_reducible rfl))
                try simp only [Act.put, lay1, lay2, lay3, lay4, lay5, lay6]
                refine wpAnyH_take (i := 18) (v := ?b11_v18) rfl (by kernel_rfl) (by kernel_rfl) (by kernel_rfl) (fun _ _ _ h => h) (Or.inl ⟨by kernel_rfl, ?b11_hy18⟩) (by assumption) ?b11_rest18
                case b11_hy18 => (intro w hSw; (try dsimp only at hSw); go_simp; try (with_reducible rfl))
                try simp only [Act.put, lay1, lay2, lay3, lay4, lay5, lay6]
                refine wpAnyH_take (i := 19) (v := ?b11_v19) rfl (by kernel_rfl) (by kernel_rfl) (by kernel_rfl) (fun _ _ _ h => h) (Or.inl ⟨by kernel_rfl, ?b11_hy19⟩) (by assumption) ?b11_rest19
                case b11_hy19 => (intro w hSw; (try dsimp only at hSw); go_simp; try (with_reducible rfl))
                try simp only [Act.put, lay1, lay2, lay3, lay4, lay5, lay6]
                refine wpAnyH_take (i := 20) (v := ?b11_v20) rfl (by kernel_rfl) (by kernel_rfl) (by kernel_rfl) (fun _ _ _ h => h) (Or.inl ⟨by kernel_rfl, ?b11_hy20⟩) (by assumption) ?b11_rest20
                case b11_hy20 => (intro w hSw; (try dsimp only at hSw); go_simp; try (with_reducible rfl))
                try simp only [Act.put, lay1, lay2, lay3, lay4, lay5, lay6]
                refine wpAnyH_take (i := 21) (v := ?b11_v21) rfl (by kernel_rfl) (by kernel_rfl) (by kernel_rfl) (fun _ _ _ h => h) (Or.inl ⟨by kernel_rfl, ?b11_hy21⟩) (by assumption) ?b11_rest21
                case b11_hy21 => (intro w hSw; (try dsimp only at hSw); go_simp; try (with_reducible rfl))
                try simp only [Act.put, lay1, lay2, lay3, lay4, lay5, lay6]
                refine wpAnyH_ready (rs := [11]) (by kernel_rfl) (by simp) ?_
                refine AllReadyH.cons rfl (fun K hK => ?_) AllReadyH.nil
                go_simp
                refine (hLn _ _ (hbk.below d1)).mono ?_
                rintro e u2 ⟨rfl, d2⟩
                have d2 := bstep d1 d2
                go_wp2_with fail
                refine hK.out _ _ ?_ (fun hHeld => ?_)
                · exact ⟨(hY.below (by first | assumption | exact bdrew _) hY.lt).cell 0, (hY.below (by first | assumption | exact bdrew _) hY.lt).cell 1, (hY.below (by first | assumption | exact bdrew _) hY.lt).cell 2, (hY.below (by first | assumption | exact bdrew _) hY.lt).cell 3, (hKp.below (by first | assumption | exact bdrew _) hKp.lt).cell 1, (hX.below (by first | assumption | exact bdrew _) hX.lt).cell 4⟩
                clear hK K
                try simp only [Act.put, lay1, lay2, lay3, lay4, lay5, lay6]
                try dsimp only
                try simp only [Act.put, lay1, lay2, lay3, lay4, lay5, lay6]
                refine wpAnyH_take (i := 22) (v := ?b11_v22) rfl (by kernel_rfl) (by kernel_rfl) (by kernel_rfl) (fun _ _ _ h => h) (Or.inl ⟨by kernel_rfl, ?b11_hy22⟩) (by assumption) ?b11_rest22
                case b11_hy22 => (intro w hSw; (try dsimp only at hSw); go_simp; try (with_reducible rfl))
                try simp only [Act.put, lay1, lay2, lay3, lay4, lay5, lay6]
                try dsimp only
                try simp only [Act.put, lay1, lay2, lay3, lay4, lay5, lay6]
                refine wpAnyH_take (i := 23) (v := ?b11_v23) rfl (by kernel_rfl) (by kernel_rfl) (by kernel_rfl) (fun _ _ _ h => h) (Or.inl ⟨by kernel_rfl, ?b11_hy23⟩) (by assumption) ?b11_rest23
                case b11_hy23 => (intro w hSw; (try dsimp only at hSw); go_simp; try (with_reducible rfl))
                try simp only [Act.put, lay1, lay2, lay3, lay4, lay5, lay6]
                try dsimp only
                try simp only [Act.put, lay1, lay2, lay3, lay4, lay5, lay6]
                refine wpAnyH_done (by kernel_rfl) ?_ _
                refine NoPanic.normal ?_
                replace hx := hx.below d2
                replace hX := hX.below d2 hX.lt
                replace hKp := hKp.below d2 hKp.lt
                replace hbk := hbk.below d2
                replace hi1 := hi1.below d2
                replace hY := hY.below d2 hY.lt
                replace hB := hB.trans (d2.mono hB.size)
                clear c8_hX_0 c8_hX_1 c8_hX_2 c8_hX_3 c8_hX_4 c8_hX_5 c8_hKp_0 c8_hKp_1 c8_hKp_2 c8_hKp_3 c8_hY_0 c8_hY_1 c8_hY_2 c8_hY_3
                obtain ⟨c9_hX_0, c9_hX_1, c9_hX_2, c9_hX_3, c9_hX_4, c9_hX_5⟩ := hX.cells6
                obtain ⟨c9_hKp_0, c9_hKp_1, c9_hKp_2, c9_hKp_3⟩ := hKp.quad
                obtain ⟨c9_hY_0, c9_hY_1, c9_hY_2, c9_hY_3⟩ := hY.quad
                go_wp2
                go_ret
                exact ⟨congrArg (fun b => Ending.returned (Value.bool b)) (okTo_le HRES.out (show j + 1 ≤ bs.length by omega)).symm, hB⟩
            · have h1 : (k1 != k) = true := by rw [bne_iff_ne]; exact hke
              have h1' : decide (k1 = k) = false := decide_eq_false hke
              have hres : okTo k Z m o N bs (j + 1) = false := by rw [HS.out, HOK.out, h1']; rfl
              have HRES := Lib.hid (okTo_le hres (show j + 1 ≤ bs.length by omega))
              clear hres hke
              refine wp_region_noPanic ?_
              refine wp_region_held_drew (S := fun w' => w'.cell? ⟨X1, 0, none⟩ = some (.int .i64 k1) ∧ w'.cell? ⟨X1, 1, none⟩ = some (.int .i64 sc) ∧ w'.cell? ⟨X1, 2, none⟩ = some (.slice P1 cs.length Q1) ∧ w'.cell? ⟨X1, 3, none⟩ = some (.slice P2 wd.length Q2) ∧ w'.cell? ⟨g + 1, 1, none⟩ = some (.int .i64 Z) ∧ w'.cell? ⟨g, 4, none⟩ = some (.int .i64 N)) (by kernel_rfl) ?_ (fun hHeld => ?_)
              · exact ⟨(hY.below (by first | assumption | exact bdrew _) hY.lt).cell 0, (hY.below (by first | assumption | exact bdrew _) hY.lt).cell 1, (hY.below (by first | assumption | exact bdrew _) hY.lt).cell 2, (hY.below (by first | assumption | exact bdrew _) hY.lt).cell 3, (hKp.below (by first | assumption | exact bdrew _) hKp.lt).cell 1, (hX.below (by first | assumption | exact bdrew _) hX.lt).cell 4⟩
              refine wpAnyH_take (i := 0) (v := ?b12_v0) rfl (by kernel_rfl) (by kernel_rfl) (by kernel_rfl) (fun _ _ _ h => h) (Or.inl ⟨by kernel_rfl, ?b12_hy0⟩) (by assumption) ?b12_rest0
              case b12_hy0 => (intro w hSw; (try dsimp only at hSw); go_simp; try (with_reducible rfl))
              try simp only [Act.put, lay1, lay2, lay3, lay4, lay5, lay6]
              refine wpAnyH_ready (rs := [1]) (by kernel_rfl) (by simp) ?_
              refine AllReadyH.cons rfl (fun K hK => ?_) AllReadyH.nil
              go_simp
              refine (hR _ _ (hbk.below (bdrew _))).mono ?_
              rintro e u1 ⟨rfl, d1⟩
              have d1 := bstep (bdrew w9) d1
              go_wp2_with fail
              refine hK.out _ _ ?_ (fun hHeld => ?_)
              · exact ⟨(hY.below (by first | assumption | exact bdrew _) hY.lt).cell 0, (hY.below (by first | assumption | exact bdrew _) hY.lt).cell 1, (hY.below (by first | assumption | exact bdrew _) hY.lt).cell 2, (hY.below (by first | assumption | exact bdrew _) hY.lt).cell 3, (hKp.below (by first | assumption | exact bdrew _) hKp.lt).cell 1, (hX.below (by first | assumption | exact bdrew _) hX.lt).cell 4⟩
              clear hK K
              try simp only [Act.put, lay1, lay2, lay3, lay4, lay5, lay6]
              refine wpAnyH_take (i := 2) (v := ?b12_v2) rfl (by kernel_rfl) (by kernel_rfl) (by kernel_rfl) (fun _ _ _ h => h) (Or.inl ⟨by kernel_rfl, ?b12_hy2⟩) (by assumption) ?b12_rest2
              case b12_hy2 => (intro w hSw; (try dsimp only at hSw); go_simp; try (with_reducible rfl))
              try simp only [Act.put, lay1, lay2, lay3, lay4, lay5, lay6]
              refine wpAnyH_take (i := 3) (v := ?b12_v3) rfl (by kernel_rfl) (by kernel_rfl) (by kernel_rfl) (fun _ _ _ h => h) (Or.inl ⟨by kernel_rfl, ?b12_hy3⟩) (by assumption) ?b12_rest3
              case b12_hy3 => (intro w hSw; (try dsimp only at hSw); go_simp; try (with_reducible rfl))
              try simp only [Act.put, lay1, lay2, lay3, lay4, lay5, lay6]
              refine wpAnyH_take (i := 4) (v := ?b12_v4) rfl (by kernel_rfl) (by kernel_rfl) (by kernel_rfl) (fun _ _ _ h => h) (Or.inl ⟨by kernel_rfl, ?b12_hy4⟩) (by assumption) ?b12_rest4
              case b12_hy4 => (intro w hSw; (try dsimp only at hSw); go_simp; try (with_reducible rfl))
              try simp only [Act.put, lay1, lay2, lay3, lay4, lay5, lay6]
              refine wpAnyH_take (i := 5) (v := ?b12_v5) rfl (by kernel_rfl) (by kernel_rfl) (by kernel_rfl) (fun _ _ _ h => h) (Or.inl ⟨by kernel_rfl, ?b12_hy5⟩) (by assumption) ?b12_rest5
              case b12_hy5 => (intro w hSw; (try dsimp only at hSw); go_simp; try (with_reducible rfl))
              try simp only [Act.put, lay1, lay2, lay3, lay4, lay5, lay6]
              refine wpAnyH_take (i := 6) (v := ?b12_v6) rfl (by kernel_rfl) (by kernel_rfl) (by kernel_rfl) (fun _ _ _ h => h) (Or.inl ⟨by kernel_rfl, ?b12_hy6⟩) (by assumption) ?b12_rest6
              case b12_hy6 => (intro w hSw; (try dsimp only at hSw); go_simp; try (with_reducible rfl))
              try simp only [Act.put, lay1, lay2, lay3, lay4, lay5, lay6]
              refine wpAnyH_take (i := 7) (v := ?b12_v7) rfl (by kernel_rfl) (by kernel_rfl) (by kernel_rfl) (fun _ _ _ h => h) (Or.inl ⟨by kernel_rfl, ?b12_hy7⟩) (by assumption) ?b12_rest7
              case b12_hy7 => (intro w hSw; (try dsimp only at hSw); go_simp; try (with_reducible rfl))
              try simp only [Act.put, lay1, lay2, lay3, lay4, lay5, lay6]
              refine wpAnyH_take (i := 8) (v := ?b12_v8) rfl (by kernel_rfl) (by kernel_rfl) (by kernel_rfl) (fun _ _ _ h => h) (Or.inl ⟨by kernel_rfl, ?b12_hy8⟩) (by assumption) ?b12_rest8
              case b12_hy8 => (intro w hSw; (try dsimp only at hSw); go_simp; try (with_reducible rfl))
              try simp only [Act.put, lay1, lay2, lay3, lay4, lay5, lay6]
              refine wpAnyH_take (i := 9) (v := ?b12_v9) rfl (by kernel_rfl) (by kernel_rfl) (by kernel_rfl) (fun _ _ _ h => h) (Or.inl ⟨by kernel_rfl, ?b12_hy9⟩) (by assumption) ?b12_rest9
              case b12_hy9 => (intro w hSw; (try dsimp only at hSw); go_simp; try (with_reducible rfl))
              try simp only [Act.put, lay1, lay2, lay3, lay4, lay5, lay6]
              refine wpAnyH_take (i := 10) (v := undef) rfl (by kernel_rfl) (by kernel_rfl) (by kernel_rfl) (fun _ _ _ h => h) (Or.inr ⟨by kernel_rfl, rfl⟩) (by assumption) ?_
              try simp only [Act.put, lay1, lay2, lay3, lay4, lay5, lay6]
              refine wpAnyH_take (i := 11) (v := undef) rfl (by kernel_rfl) (by kernel_rfl) (by kernel_rfl) (fun _ _ _ h => h) (Or.inr ⟨by kernel_rfl, rfl⟩) (by assumption) ?_
              try simp only [Act.put, lay1, lay2, lay3, lay4, lay5, lay6]
              refine wpAnyH_take (i := 12) (v := undef) rfl (by kernel_rfl) (by kernel_rfl) (by kernel_rfl) (fun _ _ _ h => h) (Or.inr ⟨by kernel_rfl, rfl⟩) (by assumption) ?_
              try simp only [Act.put, lay1, lay2, lay3, lay4, lay5, lay6]
              refine wpAnyH_take (i := 13) (v := undef) rfl (by kernel_rfl) (by kernel_rfl) (by kernel_rfl) (fun _ _ _ h => h) (Or.inr ⟨by kernel_rfl, rfl⟩) (by assumption) ?_
              try simp only [Act.put, lay1, lay2, lay3, lay4, lay5, lay6]
              refine wpAnyH_take (i := 14) (v := undef) rfl (by kernel_rfl) (by kernel_rfl) (by kernel_rfl) (fun _ _ _ h => h) (Or.inr ⟨by kernel_rfl, rfl⟩) (by assumption) ?_
              try simp only [Act.put, lay1, lay2, lay3, lay4, lay5, lay6]
              refine wpAnyH_take (i := 15) (v := undef) rfl (by kernel_rfl) (by kernel_rfl) (by kernel_rfl) (fun _ _ _ h => h) (Or.inr ⟨by kernel_rfl, rfl⟩) (by assumption) ?_
              try simp only [Act.put, lay1, lay2, lay3, lay4, lay5, lay6]
              refine wpAnyH_take (i := 16) (v := undef) rfl (by kernel_rfl) (by kernel_rfl) (by kernel_rfl) (fun _ _ _ h => h) (Or.inr ⟨by kernel_rfl, rfl⟩) (by assumption) ?_
              try simp only [Act.put, lay1, lay2, lay3, lay4, lay5, lay6]
              refine wpAnyH_take (i := 17) (v := undef) rfl (by kernel_rfl) (by kernel_rfl) (by kernel_rfl) (fun _ _ _ h => h) (Or.inr ⟨by kernel_rfl, rfl⟩) (by assumption) ?_
              try simp only [Act.put, lay1, lay2, lay3, lay4, lay5, lay6]
              refine wpAnyH_take (i := 18) (v := undef) rfl (by kernel_rfl) (by kernel_rfl) (by kernel_rfl) (fun _ _ _ h => h) (Or.inr ⟨by kernel_rfl, rfl⟩) (by assumption) ?_
              try simp only [Act.put, lay1, lay2, lay3, lay4, lay5, lay6]
              refine wpAnyH_take (i := 19) (v := undef) rfl (by kernel_rfl) (by kernel_rfl) (by kernel_rfl) (fun _ _ _ h => h) (Or.inr ⟨by kernel_rfl, rfl⟩) (by assumption) ?_
              try simp only [Act.put, lay1, lay2, lay3, lay4, lay5, lay6]
              refine wpAnyH_take (i := 20) (v := undef) rfl (by kernel_rfl) (by kernel_rfl) (by kernel_rfl) (fun _ _ _ h => h) (Or.inr ⟨by kernel_rfl, rfl⟩) (by assumption) ?_
              try simp only [Act.put, lay1, lay2, lay3, lay4, lay5, lay6]
              refine wpAnyH_take (i := 21) (v := undef) rfl (by kernel_rfl) (by kernel_rfl) (by kernel_rfl) (fun _ _ _ h => h) (Or.inr ⟨by kernel_rfl, rfl⟩) (by assumption) ?_
              try simp only [Act.put, lay1, lay2, lay3, lay4, lay5, lay6]
              try dsimp only
              try simp only [Act.put, lay1, lay2, lay3, lay4, lay5, lay6]
              refine wpAnyH_take (i := 22) (v := undef) rfl (by kernel_rfl) (by kernel_rfl) (by kernel_rfl) (fun _ _ _ h => h) (Or.inr ⟨by kernel_rfl, rfl⟩) (by assumption) ?_
              try simp only [Act.put, lay1, lay2, lay3, lay4, lay5, lay6]
              try dsimp only
              try simp only [Act.put, lay1, lay2, lay3, lay4, lay5, lay6]
              refine wpAnyH_take (i := 23) (v := ?b12_v23) rfl (by kernel_rfl) (by kernel_rfl) (by kernel_rfl) (fun _ _ _ h => h) (Or.inl ⟨by kernel_rfl, ?b12_hy23⟩) (by assumption) ?b12_rest23
              case b12_hy23 => (intro w hSw; (try dsimp only at hSw); go_simp; try (with_reducible rfl))
              try simp only [Act.put, lay1, lay2, lay3, lay4, lay5, lay6]
              try dsimp only
              try simp only [Act.put, lay1, lay2, lay3, lay4, lay5, lay6]
              refine wpAnyH_done (by kernel_rfl) ?_ _
              refine NoPanic.normal ?_
              replace hx := hx.below d1
              replace hX := hX.below d1 hX.lt
              replace hKp := hKp.below d1 hKp.lt
              replace hbk := hbk.below d1
              replace hi1 := hi1.below d1
              replace hY := hY.below d1 hY.lt
              replace hB := hB.trans (d1.mono hB.size)
              clear c8_hX_0 c8_hX_1 c8_hX_2 c8_hX_3 c8_hX_4 c8_hX_5 c8_hKp_0 c8_hKp_1 c8_hKp_2 c8_hKp_3 c8_hY_0 c8_hY_1 c8_hY_2 c8_hY_3
              obtain ⟨c9_hX_0, c9_hX_1, c9_hX_2, c9_hX_3, c9_hX_4, c9_hX_5⟩ := hX.cells6
              obtain ⟨c9_hKp_0, c9_hKp_1, c9_hKp_2, c9_hKp_3⟩ := hKp.quad
              obtain ⟨c9_hY_0, c9_hY_1, c9_hY_2, c9_hY_3⟩ := hY.quad
              go_wp2
              go_ret
              exact ⟨congrArg (fun b => Ending.returned (Value.bool b)) HRES.out.symm, hB⟩
        · rw [if_pos rfl] at hkk
          subst hkk
          generalize blkR k1 sc cs wd = br at *
          go_upto_region 12 with fail
          rcases br with _ | _
          · have hres : okTo k Z m o N bs (j + 1) = false := by rw [HS.out, HOK.out]; rfl
            have HRES := Lib.hid (okTo_le hres (show j + 1 ≤ bs.length by omega))
            clear hres
            refine wp_region_noPanic ?_
            refine wp_region_held_drew (S := fun w' => w'.cell? ⟨X1, 0, none⟩ = some (.int .i64 k1) ∧ w'.cell? ⟨X1, 1, none⟩ = some (.int .i64 sc) ∧ w'.cell? ⟨X1, 2, none⟩ = some (.slice P1 cs.length Q1) ∧ w'.cell? ⟨X1, 3, none⟩ = some (.slice P2 wd.length Q2) ∧ w'.cell? ⟨g + 1, 1, none⟩ = some (.int .i64 Z) ∧ w'.cell? ⟨g, 4, none⟩ = some (.int .i64 N)) (by kernel_rfl) ?_ (fun hHeld => ?_)
            · exact ⟨(hY.below (by first | assumption | exact bdrew _) hY.lt).cell 0, (hY.below (by first | assumption | exact bdrew _) hY.lt).cell 1, (hY.below (by first | assumption | exact bdrew _) hY.lt).cell 2, (hY.below (by first | assumption | exact bdrew _) hY.lt).cell 3, (hKp.below (by first | assumption | exact bdrew _) hKp.lt).cell 1, (hX.below (by first | assumption | exact bdrew _) hX.lt).cell 4⟩
            refine wpAnyH_take (i := 0) (v := ?b13_v0) rfl (by kernel_rfl) (by kernel_rfl) (by kernel_rfl) (fun _ _ _ h => h) (Or.inl ⟨by kernel_rfl, ?b13_hy0⟩) (by assumption) ?b13_rest0
            case b13_hy0 => (intro w hSw; (try dsimp only at hSw); go_simp; try (with_reducible rfl))
            try simp only [Act.put, lay1, lay2, lay3, lay4, lay5, lay6]
            refine wpAnyH_ready (rs := [1]) (by kernel_rfl) (by simp) ?_
            refine AllReadyH.cons rfl (fun K hK => ?_) AllReadyH.nil
            go_simp
            refine (hR _ _ (hbk.below (bdrew _))).mono ?_
            rintro e u1 ⟨rfl, d1⟩
            have d1 := bstep (bdrew w9) d1
            go_wp2_with fail
            refine hK.out _ _ ?_ (fun hHeld => ?_)
            · exact ⟨(hY.below (by first | assumption | exact bdrew _) hY.lt).cell 0, (hY.below (by first | assumption | exact bdrew _) hY.lt).cell 1, (hY.below (by first | assumption | exact bdrew _) hY.lt).cell 2, (hY.below (by first | assumption | exact bdrew _) hY.lt).cell 3, (hKp.below (by first | assumption | exact bdrew _) hKp.lt).cell 1, (hX.below (by first | assumption | exact bdrew _) hX.lt).cell 4⟩
            clear hK K
            try simp only [Act.put, lay1, lay2, lay3, lay4, lay5, lay6]
            refine wpAnyH_take (i := 2) (v := ?b13_v2) rfl (by kernel_rfl) (by kernel_rfl) (by kernel_rfl) (fun _ _ _ h => h) (Or.inl ⟨by kernel_rfl, ?b13_hy2⟩) (by assumption) ?b13_rest2
            case b13_hy2 => (intro w hSw; (try dsimp only at hSw); go_simp; try (with_reducible rfl))
            try simp only [Act.put, lay1, lay2, lay3, lay4, lay5, lay6]
            refine wpAnyH_take (i := 3) (v := ?b13_v3) rfl (by kernel_rfl) (by kernel_rfl) (by kernel_rfl) (fun _ _ _ h => h) (Or.inl ⟨by kernel_rfl, ?b13_hy3⟩) (by assumption) ?b13_rest3
            case b13_hy3 => (intro w hSw; (try dsimp only at hSw); go_simp; try (with_reducible rfl))
            try simp only [Act.put, lay1, lay2, lay3, lay4, lay5, lay6]
            refine wpAnyH_take (i := 4) (v := undef) rfl (by kernel_rfl) (by kernel_rfl) (by kernel_rfl) (fun _ _ _ h => h) (Or.inr ⟨by kernel_rfl, rfl⟩) (by assumption) ?_
            try simp only [Act.put, lay1, lay2, lay3, lay4, lay5, lay6]
            refine wpAnyH_take (i := 5) (v := undef) rfl (by kernel_rfl) (by kernel_rfl) (by kernel_rfl) (fun _ _ _ h => h) (Or.inr ⟨by kernel_rfl, rfl⟩) (by assumption) ?_
            try simp only [Act.put, lay1, lay2, lay3, lay4, lay5, lay6]
            refine wpAnyH_take (i := 6) (v := undef) rfl (by kernel_rfl) (by kernel_rfl) (by kernel_rfl) (fun _ _ _ h => h) (Or.inr ⟨by kernel_rfl, rfl⟩) (by assumption) ?_
            try simp only [Act.put, lay1, lay2, lay3, lay4, lay5, lay6]
            refine wpAnyH_take (i := 7) (v := undef) rfl (by kernel_rfl) (by kernel_rfl) (by kernel_rfl) (fun _ _ _ h => h) (Or.inr ⟨by kernel_rfl, rfl⟩) (by assumption) ?_
            try simp only [Act.put, lay1, lay2, lay3, lay4, lay5, lay6]
            refine wpAnyH_take (i := 8) (v := ?b13_v8) rfl (by kernel_rfl) (by kernel_rfl) (by kernel_rfl) (fun _ _ _ h => h) (Or.inl ⟨by kernel_rfl, ?b13_hy8⟩) (by assumption) ?b13_rest8
            case b13_hy8 => (intro w hSw; (try dsimp only at hSw); go_simp; try (with_reducible rfl))
            try simp only [Act.put, lay1, lay2, lay3, lay4, lay5, lay6]
            refine wpAnyH_take (i := 9) (v := ?b13_v9) rfl (by kernel_rfl) (by kernel_rfl) (by kernel_rfl) (fun _ _ _ h => h) (Or.inl ⟨by kernel_rfl, ?b13_hy9⟩) (by assumption) ?b13_rest9
            case b13_hy9 => (intro w hSw; (try dsimp only at hSw); go_simp; try (with_reducible rfl))
            try simp only [Act.put, lay1, lay2, lay3, lay4, lay5, lay6]
            refine wpAnyH_take (i := 10) (v := undef) rfl (by kernel_rfl) (by kernel_rfl) (by kernel_rfl) (fun _ _ _ h => h) (Or.inr ⟨by kernel_rfl, rfl⟩) (by assumption) ?_
            try simp only [Act.put, lay1, lay2, lay3, lay4, lay5, lay6]
            refine wpAnyH_take (i := 11) (v := undef) rfl (by kernel_rfl) (by kernel_rfl) (by kernel_rfl) (fun _ _ _ h => h) (Or.inr ⟨by kernel_rfl, rfl⟩) (by assumption) ?_
            try simp only [Act.put, lay1, lay2, lay3, lay4, lay5, lay6]
            refine wpAnyH_take (i := 12) (v := undef) rfl (by kernel_rfl) (by kernel_rfl) (by kernel_rfl) (fun _ _ _ h => h) (Or.inr ⟨by kernel_rfl, rfl⟩) (by assumption) ?_
            try simp only [Act.put, lay1, lay2, lay3, lay4, lay5, lay6]
            refine wpAnyH_take (i := 13) (v := undef) rfl (by kernel_rfl) (by kernel_rfl) (by kernel_rfl) (fun _ _ _ h => h) (Or.inr ⟨by kernel_rfl, rfl⟩) (by assumption) ?_
            try simp only [Act.put, lay1, lay2, lay3, lay4, lay5, lay6]
            refine wpAnyH_take (i := 14) (v := undef) rfl (by kernel_rfl) (by kernel_rfl) (by kernel_rfl) (fun _ _ _ h => h) (Or.inr ⟨by kernel_rfl, rfl⟩) (by assumption) ?_
            try simp only [Act.put, lay1, lay2, lay3, lay4, lay5, lay6]
            refine wpAnyH_take (i := 15) (v := undef) rfl (by kernel_rfl) (by kernel_rfl) (by kernel_rfl) (fun _ _ _ h => h) (Or.inr ⟨by kernel_rfl, rfl⟩) (by assumption) ?_
            try simp only [Act.put, lay1, lay2, lay3, lay4, lay5, lay6]
            refine wpAnyH_take (i := 16) (v := undef) rfl (by kernel_rfl) (by kernel_rfl) (by kernel_rfl) (fun _ _ _ h => h) (Or.inr ⟨by kernel_rfl, rfl⟩) (by assumption) ?_
            try simp only [Act.put, lay1, lay2, lay3, lay4, lay5, lay6]
            refine wpAnyH_take (i := 17) (v := undef) rfl (by kernel_rfl) (by kernel_rfl) (by kernel_rfl) (fun _ _ _ h => h) (Or.inr ⟨by kernel_rfl, rfl⟩) (by assumption) ?_
            try simp only [Act.put, lay1, lay2, lay3, lay4, lay5, lay6]
            refine wpAnyH_take (i := 18) (v := undef) rfl (by kernel_rfl) (by kernel_rfl) (by kernel_rfl) (fun _ _ _ h => h) (Or.inr ⟨by kernel_rfl, rfl⟩) (by assumption) ?_
            try simp only [Act.put, lay1, lay2, lay3, lay4, lay5, lay6]
            refine wpAnyH_take (i := 19) (v := undef) rfl (by kernel_rfl) (by kernel_rfl) (by kernel_rfl) (fun _ _ _ h => h) (Or.inr ⟨by kernel_rfl, rfl⟩) (by assumption) ?_
            try simp only [Act.put, lay1, lay2, lay3, lay4, lay5, lay6]
            refine wpAnyH_take (i := 20) (v := undef) rfl (by kernel_rfl) (by kernel_rfl) (by kernel_rfl) (fun _ _ _ h => h) (Or.inr ⟨by kernel_rfl, rfl⟩) (by assumption) ?_
            try simp only [Act.put, lay1, lay2, lay3, lay4, lay5, lay6]
            refine wpAnyH_take (i := 21) (v := undef) rfl (by kernel_rfl) (by kernel_rfl) (by kernel_rfl) (fun _ _ _ h => h) (Or.inr ⟨by kernel_rfl, rfl⟩) (by assumption) ?_
            try simp only [Act.put, lay1, lay2, lay3, lay4, lay5, lay6]
            try dsimp only
            try simp only [Act.put, lay1, lay2, lay3, lay4, lay5, lay6]
            refine wpAnyH_take (i := 22) (v := undef) rfl (by kernel_rfl) (by kernel_rfl) (by kernel_rfl) (fun _ _ _ h => h) (Or.inr ⟨by kernel_rfl, rfl⟩) (by assumption) ?_
            try simp only [Act.put, lay1, lay2, lay3, lay4, lay5, lay6]
            try dsimp only
            try simp only [Act.put, lay1, lay2, lay3, lay4, lay5, lay6]
            refine wpAnyH_take (i := 23) (v := ?b13_v23) rfl (by kernel_rfl) (by kernel_rfl) (by kernel_rfl) (fun _ _ _ h => h) (Or.inl ⟨by kernel_rfl, ?b13_hy23⟩) (by assumption) ?b13_rest23
            case b13_hy23 => (intro w hSw; (try dsimp only at hSw); go_simp; try (with_reducible rfl))
            try simp only [Act.put, lay1, lay2, lay3, lay4, lay5, lay6]
            try dsimp only
            try simp only [Act.put, lay1, lay2, lay3, lay4, lay5, lay6]
            refine wpAnyH_done (by kernel_rfl) ?_ _
            refine NoPanic.normal ?_
            replace hx := hx.below d1
            replace hX := hX.below d1 hX.lt
            replace hKp := hKp.below d1 hKp.lt
            replace hbk := hbk.below d1
            replace hi1 := hi1.below d1
            replace hY := hY.below d1 hY.lt
            replace hB := hB.trans (d1.mono hB.size)
            clear c8_hX_0 c8_hX_1 c8_hX_2 c8_hX_3 c8_hX_4 c8_hX_5 c8_hKp_0 c8_hKp_1 c8_hKp_2 c8_hKp_3 c8_hY_0 c8_hY_1 c8_hY_2 c8_hY_3
            obtain ⟨c9_hX_0, c9_hX_1, c9_hX_2, c9_hX_3, c9_hX_4, c9_hX_5⟩ := hX.cells6
            obtain ⟨c9_hKp_0, c9_hKp_1, c9_hKp_2, c9_hKp_3⟩ := hKp.quad
            obtain ⟨c9_hY_0, c9_hY_1, c9_hY_2, c9_hY_3⟩ := hY.quad
            go_wp2
            go_ret
            exact ⟨congrArg (fun b => Ending.returned (Value.bool b)) HRES.out.symm, hB⟩
          · by_cases hke : k1 = 4
            · by_cases hle : ln = min (Z : Int) d
              · have h1 : (k1 != 4) = false := by rw [hke]; simp
                have h1' : decide (k1 = 4) = true := decide_eq_true hke
                have h2 : (ln != min (Z : Int) d) = false := by rw [hle]; simp
                have h2' : decide (ln = min (Z : Int) d) = true := decide_eq_true hle
                have hres : okTo k Z m o N bs (j + 1) = true := by rw [HS.out, HOK.out, h1', h2']; rfl
                have HRES := Lib.hid hres
                clear hres hke hle
                refine wp_region_noPanic ?_
                refine wp_region_held_drew (S := fun w' => w'.cell? ⟨X1, 0, none⟩ = some (.int .i64 k1) ∧ w'.cell? ⟨X1, 1, none⟩ = some (.int .i64 sc) ∧ w'.cell? ⟨X1, 2, none⟩ = some (.slice P1 cs.length Q1) ∧ w'.cell? ⟨X1, 3, none⟩ = some (.slice P2 wd.length Q2) ∧ w'.cell? ⟨g + 1, 1, none⟩ = some (.int .i64 Z) ∧ w'.cell? ⟨g, 4, none⟩ = some (.int .i64 N)) (by kernel_rfl) ?_ (fun hHeld => ?_)
                · exact ⟨(hY.below (by first | assumption | exact bdrew _) hY.lt).cell 0, (hY.below (by first | assumption | exact bdrew _) hY.lt).cell 1, (hY.below (by first | assumption | exact bdrew _) hY.lt).cell 2, (hY.below (by first | assumption | exact bdrew _) hY.lt).cell 3, (hKp.below (by first | assumption | exact bdrew _) hKp.lt).cell 1, (hX.below (by first | assumption | exact bdrew _) hX.lt).cell 4⟩
                refine wpAnyH_take (i := 0) (v := ?b14_v0) rfl (by kernel_rfl) (by kernel_rfl) (by kernel_rfl) (fun _ _ _ h => h) (Or.inl ⟨by kernel_rfl, ?b14_hy0⟩) (by assumption) ?b14_rest0
                case b14_hy0 => (intro w hSw; (try dsimp only at hSw); go_simp; try (with_reducible rfl))
                try simp only [Act.put, lay1, lay2, lay3, lay4, lay5, lay6]
                refine wpAnyH_ready (rs := [1]) (by kernel_rfl) (by simp) ?_
                refine AllReadyH.cons rfl (fun K hK => ?_) AllReadyH.nil
                go_simp
                refine (hR _ _ (hbk.below (bdrew _))).mono ?_
                rintro e u1 ⟨rfl, d1⟩
                have d1 := bstep (bdrew w9) d1
                go_wp2_with fail
                refine hK.out _ _ ?_ (fun hHeld => ?_)
                · exact ⟨(hY.below (by first | assumption | exact bdrew _) hY.lt).cell 0, (hY.below (by first | assumption | exact bdrew _) hY.lt).cell 1, (hY.below (by first | assumption | exact bdrew _) hY.lt).cell 2, (hY.below (by first | assumption | exact bdrew _) hY.lt).cell 3, (hKp.below (by first | assumption | exact bdrew _) hKp.lt).cell 1, (hX.below (by first | assumption | exact bdrew _) hX.lt).cell 4⟩
                clear hK K
                try simp only [Act.put, lay1, lay2, lay3, lay4, lay5, lay6]
                refine wpAnyH_take (i := 2) (v := ?b14_v2) rfl (by kernel_rfl) (by kernel_rfl) (by kernel_rfl) (fun _ _ _ h => h) (Or.inl ⟨by kernel_rfl, ?b14_hy2⟩) (by assumption) ?b14_rest2
                case b14_hy2 => (intro w hSw; (try dsimp only at hSw); go_simp; try (with_reducible rfl))
                try simp only [Act.put, lay1, lay2, lay3, lay4, lay5, lay6]
                refine wpAnyH_take (i := 3) (v := ?b14_v3) rfl (by kernel_rfl) (by kernel_rfl) (by kernel_rfl) (fun _ _ _ h => h) (Or.inl ⟨by kernel_rfl, ?b14_hy3⟩) (by assumption) ?b14_rest3
                case b14_hy3 => (intro w hSw; (try dsimp only at hSw); go_simp; try (with_reducible rfl))
                try simp only [Act.put, lay1, lay2, lay3, lay4, lay5, lay6]
                refine wpAnyH_take (i := 4) (v := ?b14_v4) rfl (by kernel_rfl) (by kernel_rfl) (by kernel_rfl) (fun _ _ _ h => h) (Or.inl ⟨by kernel_rfl, ?b14_hy4⟩) (by assumption) ?b14_rest4
                case b14_hy4 => (intro w hSw; (try dsimp only at hSw); go_simp; try (with_reducible rfl))
                try simp only [Act.put, lay1, lay2, lay3, lay4, lay5, lay6]
                refine wpAnyH_take (i := 5) (v := ?b14_v5) rfl (by kernel_rfl) (by kernel_rfl) (by kernel_rfl) (fun _ _ _ h => h) (Or.inl ⟨by kernel_rfl, ?b14_hy5⟩) (by assumption) ?b14_rest5
                case b14_hy5 => (intro w hSw; (try dsimp only at hSw); go_simp; try (with_reducible rfl))
                try simp only [Act.put, lay1, lay2, lay3, lay4, lay5, lay6]
                refine wpAnyH_take (i := 6) (v := ?b14_v6) rfl (by kernel_rfl) (by kernel_rfl) (by kernel_rfl) (fun _ _ _ h => h) (Or.inl ⟨by kernel_rfl, ?b14_hy6⟩) (by assumption) ?b14_rest6
                case b14_hy6 => (intro w hSw; (try dsimp only at hSw); go_simp; try (with_reducible rfl))
                try simp only [Act.put, lay1, lay2, lay3, lay4, lay5, lay6]
                refine wpAnyH_take (i := 7) (v := ?b14_v7) rfl (by kernel_rfl) (by kernel_rfl) (by kernel_rfl) (fun _ _ _ h => h) (Or.inl ⟨by kernel_rfl, ?b14_hy7⟩) (by assumption) ?b14_rest7
                case b14_hy7 => (intro w hSw; (try dsimp only at hSw); go_simp; try (with_reducible rfl))
                try simp only [Act.put, lay1, lay2, lay3, lay4, lay5, lay6]
                refine wpAnyH_take (i := 8) (v := ?b14_v8) rfl (by kernel_rfl) (by kernel_rfl) (by kernel_rfl) (fun _ _ _ h => h) (Or.inl ⟨by kernel_rfl, ?b14_hy8⟩) (by assumption) ?b14_rest8
                case b14_hy8 => (intro w hSw; (try dsimp only at hSw); go_simp; try (with_reducible rfl))
                try simp only [Act.put, lay1, lay2, lay3, lay4, lay5, lay6]
                refine wpAnyH_take (i := 9) (v := ?b14_v9) rfl (by kernel_rfl) (by kernel_rfl) (by kernel_rfl) (fun _ _ _ h => h) (Or.inl ⟨by kernel_rfl, ?b14_hy9⟩) (by assumption) ?b14_rest9
                case b14_hy9 => (intro w hSw; (try dsimp only at hSw); go_simp; try (with_reducible rfl))
                try simp only [Act.put, lay1, lay2, lay3, lay4, lay5, lay6]
                refine wpAnyH_take (i := 10) (v := ?b14_v10) rfl (by kernel_rfl) (by kernel_rfl) (by kernel_rfl) (fun _ _ _ h => h) (Or.inl ⟨by kernel_rfl, ?b14_hy10⟩) (by assumption) ?b14_rest10
                case b14_hy10 => (intro w hSw; (try dsimp only at hSw); go_simp; try (with_reducible rfl))
                try simp only [Act.put, lay1, lay2, lay3, lay4, lay5, lay6]
                refine wpAnyH_take (i := 12) (v := ?b14_v12) rfl (by kernel_rfl) (by kernel_rfl) (by kernel_rfl) (fun _ _ _ h => h) (Or.inl ⟨by kernel_rfl, ?b14_hy12⟩) (by assumption) ?b14_rest12
                case b14_hy12 => (intro w hSw; (try dsimp only at hSw); go_simp; try (with_reducible rfl))
                try simp only [Act.put, lay1, lay2, lay3, lay4, lay5, lay6]
                refine wpAnyH_take (i := 13) (v := ?b14_v13) rfl (by kernel_rfl) (by kernel_rfl) (by kernel_rfl) (fun _ _ _ h => h) (Or.inl ⟨by kernel_rfl, ?b14_hy13⟩) (by assumption) ?b14_rest13
                case b14_hy13 => (intro w hSw; (try dsimp only at hSw); go_simp; try (with_reducible rfl))
                try simp only [Act.put, lay1, lay2, lay3, lay4, lay5, lay6]
                refine wpAnyH_take (i := 14) (v := ?b14_v14) rfl (by kernel_rfl) (by kernel_rfl) (by kernel_rfl) (fun _ _ _ h => h) (Or.inl ⟨by kernel_rfl, ?b14_hy14⟩) (by assumption) ?b14_rest14
                case b14_hy14 => (intro w hSw; (try dsimp only at hSw); go_simp; try (with_reducible rfl))
                try simp only [Act.put, lay1, lay2, lay3, lay4, lay5, lay6]
                refine wpAnyH_take (i := 15) (v := ?b14_v15) rfl (by kernel_rfl) (by kernel_rfl) (by kernel_rfl) (fun _ _ _ h => h) (Or.inl ⟨by kernel_rfl, ?b14_hy15⟩) (by assumption) ?b14_rest15
                case b14_hy15 => (intro w hSw; (try dsimp only at hSw); go_simp; try (with_reducible rfl))
                try simp only [Act.put, lay1, lay2, lay3, lay4, lay5, lay6]
                refine wpAnyH_take (i := 16) (v := ?b14_v16) rfl (by kernel_rfl) (by kernel_rfl) (by kernel_rfl) (fun _ _ _ h => h) (Or.inl ⟨by kernel_rfl, ?b14_hy16⟩) (by assumption) ?b14_rest16
                case b14_hy16 => (intro w hSw; (try dsimp only at hSw); go_simp; try (with_reducible rfl))
                try simp only [Act.put, lay1, lay2, lay3, lay4, lay5, lay6]
                refine wpAnyH_take (i := 17) (v := ?b14_v17) rfl (by kernel_rfl) (by kernel_rfl) (by kernel_rfl) (fun _ _ _ h => h) (Or.inl ⟨by kernel_rfl, ?b14_hy17⟩) (by assumption) ?b14_rest17
                case b14_hy17 => (intro w hSw; (try dsimp only at hSw); go_simp; try (with_reducible rfl))
                try simp only [Act.put, lay1, lay2, lay3, lay4, lay5, lay6]
                refine wpAnyH_take (i := 18) (v := ?b14_v18) rfl (by kernel_rfl) (by kernel_rfl) (by kernel_rfl) (fun _ _ _ h => h) (Or.inl ⟨by kernel_rfl, ?b14_hy18⟩) (by assumption) ?b14_rest18
                case b14_hy18 => (intro w hSw; (try dsimp only at hSw); go_simp; try (with_reducible rfl))
                try simp only [Act.put, lay1, lay2, lay3, lay4, lay5, lay6]
                refine wpAnyH_take (i := 19) (v := ?b14_v19) rfl (by kernel_rfl) (by kernel_rfl) (by kernel_rfl) (fun _ _ _ h => h) (Or.inl ⟨by kernel_rfl, ?b14_hy19⟩) (by assumption) ?b14_rest19
                case b14_hy19 => (intro w hSw; (try dsimp only at hSw); go_simp; try (with_reducible rfl))
                try simp only [Act.put, lay1, lay2, lay3, lay4, lay5, lay6]
                refine wpAnyH_take (i := 20) (v := ?b14_v20) rfl (by kernel_rfl) (by kernel_rfl) (by kernel_rfl) (fun _ _ _ h => h) (Or.inl ⟨by kernel_rfl, ?b14_hy20⟩) (by assumption) ?b14_rest20
                case b14_hy20 => (intro w hSw; (try dsimp only at hSw); go_simp; try (with_reducible rfl))
                try simp only [Act.put, lay1, lay2, lay3, lay4, lay5, lay6]
                refine wpAnyH_take (i := 21) (v := ?b14_v21) rfl (by kernel_rfl) (by kernel_rfl) (by kernel_rfl) (fun _ _ _ h => h) (Or.inl ⟨by kernel_rfl, ?b14_hy21⟩) (by assumption) ?b14_rest21
                case b14_hy21 => (intro w hSw; (try dsimp only at hSw); go_simp; try (with_reducible rfl))
                try simp only [Act.put, lay1, lay2, lay3, lay4, lay5, lay6]
                refine wpAnyH_ready (rs := [11]) (by kernel_rfl) (by simp) ?_
                refine AllReadyH.cons rfl (fun K hK => ?_) AllReadyH.nil
                go_simp
                refine (hLn _ _ (hbk.below d1)).mono ?_
                rintro e u2 ⟨rfl, d2⟩
                have d2 := bstep d1 d2
                go_wp2_with fail
                refine hK.out _ _ ?_ (fun hHeld => ?_)
                · exact ⟨(hY.below (by first | assumption | exact bdrew _) hY.lt).cell 0, (hY.below (by first | assumption | exact bdrew _) hY.lt).cell 1, (hY.below (by first | assumption | exact bdrew _) hY.lt).cell 2, (hY.below (by first | assumption | exact bdrew _) hY.lt).cell 3, (hKp.below (by first | assumption | exact bdrew _) hKp.lt).cell 1, (hX.below (by first | assumption | exact bdrew _) hX.lt).cell 4⟩
                clear hK K
                try simp only [Act.put, lay1, lay2, lay3, lay4, lay5, lay6]
                try dsimp only
                try simp only [Act.put, lay1, lay2, lay3, lay4, lay5, lay6]
                refine wpAnyH_take (i := 22) (v := ?b14_v22) rfl (by kernel_rfl) (by kernel_rfl) (by kernel_rfl) (fun _ _ _ h => h) (Or.inl ⟨by kernel_rfl, ?b14_hy22⟩) (by assumption) ?b14_rest22
                case b14_hy22 => (intro w hSw; (try dsimp only at hSw); go_simp; try (with_reducible rfl))
                try simp only [Act.put, lay1, lay2, lay3, lay4, lay5, lay6]
                try dsimp only
                try simp only [Act.put, lay1, lay2, lay3, lay4, lay5, lay6]
                refine wpAnyH_take (i := 23) (v := ?b14_v23) rfl (by kernel_rfl) (by kernel_rfl) (by kernel_rfl) (fun _ _ _ h => h) (Or.inl ⟨by kernel_rfl, ?b14_hy23⟩) (by assumption) ?b14_rest23
                case b14_hy23 => (intro w hSw; (try dsimp only at hSw); go_simp; try (with_reducible rfl))
                try simp only [Act.put, lay1, lay2, lay3, lay4, lay5, lay6]
                try dsimp only
                try simp only [Act.put, lay1, lay2, lay3, lay4, lay5, lay6]
                refine wpAnyH_done (by kernel_rfl) ?_ _
                refine NoPanic.normal ?_
                replace hx := hx.below d2
                replace hX := hX.below d2 hX.lt
                replace hKp := hKp.below d2 hKp.lt
                replace hbk := hbk.below d2
                replace hi1 := hi1.below d2
                replace hY := hY.below d2 hY.lt
                replace hB := hB.trans (d2.mono hB.size)
                clear c8_hX_0 c8_hX_1 c8_hX_2 c8_hX_3 c8_hX_4 c8_hX_5 c8_hKp_0 c8_hKp_1 c8_hKp_2 c8_hKp_3 c8_hY_0 c8_hY_1 c8_hY_2 c8_hY_3
                obtain ⟨c9_hX_0, c9_hX_1, c9_hX_2, c9_hX_3, c9_hX_4, c9_hX_5⟩ := hX.cells6
                obtain ⟨c9_hKp_0, c9_hKp_1, c9_hKp_2, c9_hKp_3⟩ := hKp.quad
                obtain ⟨c9_hY_0, c9_hY_1, c9_hY_2, c9_hY_3⟩ := hY.quad
                go_wp2
                exact ⟨⟨j + 1, by go_num, by omega, HRES, bl.trans ((show Below wr.heap.size wr _ from bstep hBr d2).mono bl.size)⟩, by simp [intOf]; omega⟩
              · have h1 : (k1 != 4) = false := by rw [hke]; simp
                have h1' : decide (k1 = 4) = true := decide_eq_true hke
                have h2 : (ln != min (Z : Int) d) = true := by rw [bne_iff_ne]; exact hle
                have h2' : decide (ln = min (Z : Int) d) = false := decide_eq_false hle
                have hres : okTo k Z m o N bs (j + 1) = false := by rw [HS.out, HOK.out, h1', h2']; rfl
                have HRES := Lib.hid hres
                clear hres hke hle
                refine wp_region_noPanic ?_
                refine wp_region_held_drew (S := fun w' => w'.cell? ⟨X1, 0, none⟩ = some (.int .i64 k1) ∧ w'.cell? ⟨X1, 1, none⟩ = some (.int .i64 sc) ∧ w'.cell? ⟨X1, 2, none⟩ = some (.slice P1 cs.length Q1) ∧ w'.cell? ⟨X1, 3, none⟩ = some (.slice P2 wd.length Q2) ∧ w'.cell? ⟨g + 1, 1, none⟩ = some (.int .i64 Z) ∧ w'.cell? ⟨g, 4, none⟩ = some (.int .i64 N)) (by kernel_rfl) ?_ (fun hHeld => ?_)
                · exact ⟨(hY.below (by first | assumption | exact bdrew _) hY.lt).cell 0, (hY.below (by first | assumption | exact bdrew _) hY.lt).cell 1, (hY.below (by first | assumption | exact bdrew _) hY.lt).cell 2, (hY.below (by first | assumption | exact bdrew _) hY.lt).cell 3, (hKp.below (by first | assumption | exact bdrew _) hKp.lt).cell 1, (hX.below (by first | assumption | exact bdrew _) hX.lt).cell 4⟩
                refine wpAnyH_take (i := 0) (v := ?b15_v0) rfl (by kernel_rfl) (by kernel_rfl) (by kernel_rfl) (fun _ _ _ h => h) (Or.inl ⟨by kernel_rfl, ?b15_hy0⟩) (by assumption) ?b15_rest0
                case b15_hy0 => (intro w hSw; (try dsimp only at hSw); go_simp; try (with_reducible rfl))
                try simp only [Act.put, lay1, lay2, lay3, lay4, lay5, lay6]
                refine wpAnyH_ready (rs := [1]) (by kernel_rfl) (by simp) ?_
                refine AllReadyH.cons rfl (fun K hK => ?_) AllReadyH.nil
                go_simp
                refine (hR _ _ (hbk.below (bdrew _))).mono ?_
                rintro e u1 ⟨rfl, d1⟩
                have d1 := bstep (bdrew w9) d1
                go_wp2_with fail
                refine hK.out _ _ ?_ (fun hHeld => ?_)
                · exact ⟨(hY.below (by first | assumption | exact bdrew _) hY.lt).cell 0, (hY.below (by first | assumption | exact bdrew _) hY.lt).cell 1, (hY.below (by first | assumption | exact bdrew _) hY.lt).cell 2, (hY.below (by first | assumption | exact bdrew _) hY.lt).cell 3, (hKp.below (by first | assumption | exact bdrew _) hKp.lt).cell 1, (hX.below (by first | assumption | exact bdrew _) hX.lt).cell 4⟩
                clear hK K
                try simp only [Act.put, lay1, lay2, lay3, lay4, lay5, lay6]
                refine wpAnyH_take (i := 2) (v := ?b15_v2) rfl (by kernel_rfl) (by kernel_rfl) (by kernel_rfl) (fun _ _ _ h => h) (Or.inl ⟨by kernel_rfl, ?b15_hy2⟩) (by assumption) ?b15_rest2
                case b15_hy2 => (intro w hSw; (try dsimp only at hSw); go_simp; try (with_reducible rfl))
                try simp only [Act.put, lay1, lay2, lay3, lay4, lay5, lay6]
                refine wpAnyH_take (i := 3) (v := ?b15_v3) rfl (by kernel_rfl) (by kernel_rfl) (by kernel_rfl) (fun _ _ _ h => h) (Or.inl ⟨by kernel_rfl, ?b15_hy3⟩) (by assumption) ?b15_rest3
                case b15_hy3 => (intro w hSw; (try dsimp only at hSw); go_simp; try (with_reducible rfl))
                try simp only [Act.put, lay1, lay2, lay3, lay4, lay5, lay6]
                refine wpAnyH_take (i := 4) (v := ?b15_v4) rfl (by kernel_rfl) (by kernel_rfl) (by kernel_rfl) (fun _ _ _ h => h) (Or.inl ⟨by kernel_rfl, ?b15_hy4⟩) (by assumption) ?b15_rest4
                case b15_hy4 => (intro w hSw; (try dsimp only at hSw); go_simp; try (with_reducible rfl))
                try simp only [Act.put, lay1, lay2, lay3, lay4, lay5, lay6]
                refine wpAnyH_take (i := 5) (v := ?b15_v5) rfl (by kernel_rfl) (by kernel_rfl) (by kernel_rfl) (fun _ _ _ h => h) (Or.inl ⟨by kernel_rfl, ?b15_hy5⟩) (by assumption) ?b15_rest5
                case b15_hy5 => (intro w hSw; (try dsimp only at hSw); go_simp; try (with_reducible rfl))
                try simp only [Act.put, lay1, lay2, lay3, lay4, lay5, lay6]
                refine wpAnyH_take (i := 6) (v := ?b15_v6) rfl (by kernel_rfl) (by kernel_rfl) (by kernel_rfl) (fun _ _ _ h => h) (Or.inl ⟨by kernel_rfl, ?b15_hy6⟩) (by assumption) ?b15_rest6
                case b15_hy6 => (intro w hSw; (try dsimp only at hSw); go_simp; try (with_reducible rfl))
                try simp only [Act.put, lay1, lay2, lay3, lay4, lay5, lay6]
                refine wpAnyH_take (i := 7) (v := ?b15_v7) rfl (by kernel_rfl) (by kernel_rfl) (by kernel_rfl) (fun _ _ _ h => h) (Or.inl ⟨by kernel_rfl, ?b15_hy7⟩) (by assumption) ?b15_rest7
                case b15_hy7 => (intro w hSw; (try dsimp only at hSw); go_simp; try (with_reducible rfl))
                try simp only [Act.put, lay1, lay2, lay3, lay4, lay5, lay6]
                refine wpAnyH_take (i := 8) (v := ?b15_v8) rfl (by kernel_rfl) (by kernel_rfl) (by kernel_rfl) (fun _ _ _ h => h) (Or.inl ⟨by kernel_rfl, ?b15_hy8⟩) (by assumption) ?b15_rest8
                case b15_hy8 => (intro w hSw; (try dsimp only at hSw); go_simp; try (with_reducible rfl))
                try simp only [Act.put, lay1, lay2, lay3, lay4, lay5, lay6]
                refine wpAnyH_take (i := 9) (v := ?b15_v9) rfl (by kernel_rfl) (by kernel_rfl) (by kernel_rfl) (fun _ _ _ h => h) (Or.inl ⟨by kernel_rfl, ?b15_hy9⟩) (by assumption) ?b15_rest9
                case b15_hy9 => (intro w hSw; (try dsimp only at hSw); go_simp; try (with_reducible rfl))
                try simp only [Act.put, lay1, lay2, lay3, lay4, lay5, lay6]
                refine wpAnyH_take (i := 10) (v := ?b15_v10) rfl (by kernel_rfl) (by kernel_rfl) (by kernel_rfl) (fun _ _ _ h => h) (Or.inl ⟨by kernel_rfl, ?b15_hy10⟩) (by assumption) ?b15_rest10
                case b15_hy10 => (intro w hSw; (try dsimp only at hSw); go_simp; try (with_reducible rfl))
                try simp only [Act.put, lay1, lay2, lay3, lay4, lay5, lay6]
                refine wpAnyH_take (i := 12) (v := ?b15_v12) rfl (by kernel_rfl) (by kernel_rfl) (by kernel_rfl) (fun _ _ _ h => h) (Or.inl ⟨by kernel_rfl, ?b15_hy12⟩) (by assumption) ?b15_rest12
                case b15_hy12 => (intro w hSw; (try dsimp only at hSw); go_simp; try (with_reducible rfl))
                try simp only [Act.put, lay1, lay2, lay3, lay4, lay5, lay6]
                refine wpAnyH_take (i := 13) (v := ?b15_v13) rfl (by kernel_rfl) (by kernel_rfl) (by kernel_rfl) (fun _ _ _ h => h) (Or.inl ⟨by kernel_rfl, ?b15_hy13⟩) (by assumption) ?b15_rest13
                case b15_hy13 => (intro w hSw; (try dsimp only at hSw); go_simp; try (with_reducible rfl))
                try simp only [Act.put, lay1, lay2, lay3, lay4, lay5, lay6]
                refine wpAnyH_take (i := 14) (v := ?b15_v14) rfl (by kernel_rfl) (by kernel_rfl) (by kernel_rfl) (fun _ _ _ h => h) (Or.inl ⟨by kernel_rfl, ?b15_hy14⟩) (by assumption) ?b15_rest14
                case b15_hy14 => (intro w hSw; (try dsimp only at hSw); go_simp; try (with_reducible rfl))
                try simp only [Act.put, lay1, lay2, lay3, lay4, lay5, lay6]
                refine wpAnyH_take (i := 15) (v := ?b15_v15) rfl (by kernel_rfl) (by kernel_rfl) (by kernel_rfl) (fun _ _ _ h => h) (Or.inl ⟨by kernel_rfl, ?b15_hy15⟩) (by assumption) ?b15_rest15
                case b15_hy15 => (intro w hSw; (try dsimp only at hSw); go_simp; try (with_reducible rfl))
                try simp only [Act.put, lay1, lay2, lay3, lay4, lay5, lay6]
                refine wpAnyH_take (i := 16) (v := ?b15_v16) rfl (by kernel_rfl) (by kernel_rfl) (by kernel_rfl) (fun _ _ _ h => h) (Or.inl ⟨by kernel_rfl, ?b15_hy16⟩) (by assumption) ?b15_rest16
                case b15_hy16 => (intro w hSw; (try dsimp only at hSw); go_simp; try (with_reducible rfl))
                try simp only [Act.put, lay1, lay2, lay3, lay4, lay5, lay6]
                refine wpAnyH_take (i := 17) (v := ?b15_v17) rfl (by kernel_rfl) (by kernel_rfl) (by kernel_rfl) (fun _ _ _ h => h) (Or.inl ⟨by kernel_rfl, ?b15_hy17⟩) (by assumption) ?b15_rest17
                case b15_hy17 => (intro w hSw; (try dsimp only at hSw); go_simp; try (with_reducible rfl))
                try simp only [Act.put, lay1, lay2, lay3, lay4, lay5, lay6]
                refine wpAnyH_take (i := 18) (v := ?b15_v18) rfl (by kernel_rfl) (by kernel_rfl) (by kernel_rfl) (fun _ _ _ h => h) (Or.inl ⟨by kernel_rfl, ?b15_hy18⟩) (by assumption) ?b15_rest18
                case b15_hy18 => (intro w hSw; (try dsimp only at hSw); go_simp; try (with_reducible rfl))
                try simp only [Act.put, lay1, lay2, lay3, lay4, lay5, lay6]
                refine wpAnyH_take (i := 19) (v := ?b15_v19) rfl (by kernel_rfl) (by kernel_rfl) (by kernel_rfl) (fun _ _ _ h => h) (Or.inl ⟨by kernel_rfl, ?b15_hy19⟩) (by assumption) ?b15_rest19
                case b15_hy19 => (intro w hSw; (try dsimp only at hSw); go_simp; try (with_reducible rfl))
                try simp only [Act.put, lay1, lay2, lay3, lay4, lay5, lay6]
                refine wpAnyH_take (i := 20) (v := ?b15_v20) rfl (by kernel_rfl) (by kernel_rfl) (by kernel_rfl) (fun _ _ _ h => h) (Or.inl ⟨by kernel_rfl, ?b15_hy20⟩) (by assumption) ?b15_rest20
                case b15_hy20 => (intro w hSw; (try dsimp only at hSw); go_simp; try (with_reducible rfl))
                try simp only [Act.put, lay1, lay2, lay3, lay4, lay5, lay6]
                refine wpAnyH_take (i := 21) (v := ?b15_v21) rfl (by kernel_rfl) (by kernel_rfl) (by kernel_rfl) (fun _ _ _ h => h) (Or.inl ⟨by kernel_rfl, ?b15_hy21⟩) (by assumption) ?b15_rest21
                case b15_hy21 => (intro w hSw; (try dsimp only at hSw); go_simp; try (with_reducible rfl))
                try simp only [Act.put, lay1, lay2, lay3, lay4, lay5, lay6]
                refine wpAnyH_ready (rs := [11]) (by kernel_rfl) (by simp) ?_
                refine AllReadyH.cons rfl (fun K hK => ?_) AllReadyH.nil
                go_simp
                refine (hLn _ _ (hbk.below d1)).mono ?_
                rintro e u2 ⟨rfl, d2⟩
                have d2 := bstep d1 d2
                go_wp2_with fail
                refine hK.out _ _ ?_ (fun hHeld => ?_)
                · exact ⟨(hY.below (by first | assumption | exact bdrew _) hY.lt).cell 0, (hY.below (by first | assumption | exact bdrew _) hY.lt).cell 1, (hY.below (by first | assumption | exact bdrew _) hY.lt).cell 2, (hY.below (by first | assumption | exact bdrew _) hY.lt).cell 3, (hKp.below (by first | assumption | exact bdrew _) hKp.lt).cell 1, (hX.below (by first | assumption | exact bdrew _) hX.lt).cell 4⟩
                clear hK K
                try simp only [Act.put, lay1, lay2, lay3, lay4, lay5, lay6]
                try dsimp only
                try simp only [Act.put, lay1, lay2, lay3, lay4, lay5, lay6]
                refine wpAnyH_take (i := 22) (v := ?b15_v22) rfl (by kernel_rfl) (by kernel_rfl) (by kernel_rfl) (fun _ _ _ h => h) (Or.inl ⟨by kernel_rfl, ?b15_hy22⟩) (by assumption) ?b15_rest22
                case b15_hy22 => (intro w hSw; (try dsimp only at hSw); go_simp; try (with_reducible rfl))
                try simp only [Act.put, lay1, lay2, lay3, lay4, lay5, lay6]
                try dsimp only
                try simp only [Act.put, lay1, lay2, lay3, lay4, lay5, lay6]
                refine wpAnyH_take (i := 23) (v := ?b15_v23) rfl (by kernel_rfl) (by kernel_rfl) (by kernel_rfl) (fun _ _ _ h => h) (Or.inl ⟨by kernel_rfl, ?b15_hy23⟩) (by assumption) ?b15_rest23
                case b15_hy23 => (intro w hSw; (try dsimp only at hSw); go_simp; try (with_reducible rfl))
                try simp only [Act.put, lay1, lay2, lay3, lay4, lay5, lay6]
                try dsimp only
                try simp only [Act.put, lay1, lay2, lay3, lay4, lay5, lay6]
                refine wpAnyH_done (by kernel_rfl) ?_ _
                refine NoPanic.normal ?_
                replace hx := hx.below d2
                replace hX := hX.below d2 hX.lt
                replace hKp := hKp.below d2 hKp.lt
                replace hbk := hbk.below d2
                replace hi1 := hi1.below d2
                replace hY := hY.below d2 hY.lt
                replace hB := hB.trans (d2.mono hB.size)
                clear c8_hX_0 c8_hX_1 c8_hX_2 c8_hX_3 c8_hX_4 c8_hX_5 c8_hKp_0 c8_hKp_1 c8_hKp_2 c8_hKp_3 c8_hY_0 c8_hY_1 c8_hY_2 c8_hY_3
                obtain ⟨c9_hX_0, c9_hX_1, c9_hX_2, c9_hX_3, c9_hX_4, c9_hX_5⟩ := hX.cells6
                obtain ⟨c9_hKp_0, c9_hKp_1, c9_hKp_2, c9_hKp_3⟩ := hKp.quad
                obtain ⟨c9_hY_0, c9_hY_1, c9_hY_2, c9_hY_3⟩ := hY.quad
                go_wp2
                go_ret
                exact ⟨congrArg (fun b => Ending.returned (Value.bool b)) (okTo_le HRES.out (show j + 1 ≤ bs.length by omega)).symm, hB⟩
            · have h1 : (k1 != 4) = true := by rw [bne_iff_ne]; exact hke
              have h1' : decide (k1 = 4) = false := decide_eq_false hke
              have hres : okTo k Z m o N bs (j + 1) = false := by rw [HS.out, HOK.out, h1']; rfl
              have HRES := Lib.hid (okTo_le hres (show j + 1 ≤ bs.length by omega))
              clear hres hke
              refine wp_region_noPanic ?_
              refine wp_region_held_drew (S := fun w' => w'.cell? ⟨X1, 0, none⟩ = some (.int .i64 k1) ∧ w'.cell? ⟨X1, 1, none⟩ = some (.int .i64 sc) ∧ w'.cell? ⟨X1, 2, none⟩ = some (.slice P1 cs.length Q1) ∧ w'.cell? ⟨X1, 3, none⟩ = some (.slice P2 wd.length Q2) ∧ w'.cell? ⟨g + 1, 1, none⟩ = some (.int .i64 Z) ∧ w'.cell? ⟨g, 4, none⟩ = some (.int .i64 N)) (by kernel_rfl) ?_ (fun hHeld => ?_)
              · exact ⟨(hY.below (by first | assumption | exact bdrew _) hY.lt).cell 0, (hY.below (by first | assumption | exact bdrew _) hY.lt).cell 1, (hY.below (by first | assumption | exact bdrew _) hY.lt).cell 2, (hY.below (by first | assumption | exact bdrew _) hY.lt).cell 3, (hKp.below (by first | assumption | exact bdrew _) hKp.lt).cell 1, (hX.below (by first | assumption | exact bdrew _) hX.lt).cell 4⟩
              refine wpAnyH_take (i := 0) (v := ?b16_v0) rfl (by kernel_rfl) (by kernel_rfl) (by kernel_rfl) (fun _ _ _ h => h) (Or.inl ⟨by kernel_rfl, ?b16_hy0⟩) (by assumption) ?b16_rest0
              case b16_hy0 => (intro w hSw; (try dsimp only at hSw); go_simp; try (with_reducible rfl))
              try simp only [Act.put, lay1, lay2, lay3, lay4, lay5, lay6]
              refine wpAnyH_ready (rs := [1]) (by kernel_rfl) (by simp) ?_
              refine AllReadyH.cons rfl (fun K hK => ?_) AllReadyH.nil
              go_simp
              refine (hR _ _ (hbk.below (bdrew _))).mono ?_
              rintro e u1 ⟨rfl, d1⟩
              have d1 := bstep (bdrew w9) d1
              go_wp2_with fail
              refine hK.out _ _ ?_ (fun hHeld => ?_)
              · exact ⟨(hY.below (by first | assumption | exact bdrew _) hY.lt).cell 0, (hY.below (by first | assumption | exact bdrew _) hY.lt).cell 1, (hY.below (by first | assumption | exact bdrew _) hY.lt).cell 2, (hY.below (by first | assumption | exact bdrew _) hY.lt).cell 3, (hKp.below (by first | assumption | exact bdrew _) hKp.lt).cell 1, (hX.below (by first | assumption | exact bdrew _) hX.lt).cell 4⟩
              clear hK K
              try simp only [Act.put, lay1, lay2, lay3, lay4, lay5, lay6]
              refine wpAnyH_take (i := 2) (v := ?b16_v2) rfl (by kernel_rfl) (by kernel_rfl) (by kernel_rfl) (fun _ _ _ h => h) (Or.inl ⟨by kernel_rfl, ?b16_hy2⟩) (by assumption) ?b16_rest2
              case b16_hy2 => (intro w hSw; (try dsimp only at hSw); go_simp; try (with_reducible rfl))
              try simp only [Act.put, lay1, lay2, lay3, lay4, lay5, lay6]
              refine wpAnyH_take (i := 3) (v := ?b16_v3) rfl (by kernel_rfl) (by kernel_rfl) (by kernel_rfl) (fun _ _ _ h => h) (Or.inl ⟨by kernel_rfl, ?b16_hy3⟩) (by assumption) ?b16_rest3
              case b16_hy3 => (intro w hSw; (try dsimp only at hSw); go_simp; try (with_reducible rfl))
              try simp only [Act.put, lay1, lay2, lay3, lay4, lay5, lay6]
              refine wpAnyH_take (i := 4) (v := ?b16_v4) rfl (by kernel_rfl) (by kernel_rfl) (by kernel_rfl) (fun _ _ _ h => h) (Or.inl ⟨by kernel_rfl, ?b16_hy4⟩) (by assumption) ?b16_rest4
              case b16_hy4 => (intro w hSw; (try dsimp only at hSw); go_simp; try (with_reducible rfl))
              try simp only [Act.put, lay1, lay2, lay3, lay4, lay5, lay6]
              refine wpAnyH_take (i := 5) (v := ?b16_v5) rfl (by kernel_rfl) (by kernel_rfl) (by kernel_rfl) (fun _ _ _ h => h) (Or.inl ⟨by kernel_rfl, ?b16_hy5⟩) (by assumption) ?b16_rest5
              case b16_hy5 => (intro w hSw; (try dsimp only at hSw); go_simp; try (with_reducible rfl))
              try simp only [Act.put, lay1, lay2, lay3, lay4, lay5, lay6]
              refine wpAnyH_take (i := 6) (v := ?b16_v6) rfl (by kernel_rfl) (by kernel_rfl) (by kernel_rfl) (fun _ _ _ h => h) (Or.inl ⟨by kernel_rfl, ?b16_hy6⟩) (by assumption) ?b16_rest6
              case b16_hy6 => (intro w hSw; (try dsimp only at hSw); go_simp; try (with_reducible rfl))
              try simp only [Act.put, lay1, lay2, lay3, lay4, lay5, lay6]
              refine wpAnyH_take (i := 7) (v := ?b16_v7) rfl (by kernel_rfl) (by kernel_rfl) (by kernel_rfl) (fun _ _ _ h => h) (Or.inl ⟨by kernel_rfl, ?b16_hy7⟩) (by assumption) ?b16_rest7
              case b16_hy7 => (intro w hSw; (try dsimp only at hSw); go_simp; try (with_reducible rfl))
              try simp only [Act.put, lay1, lay2, lay3, lay4, lay5, lay6]
              refine wpAnyH_take (i := 8) (v := ?b16_v8) rfl (by kernel_rfl) (by kernel_rfl) (by kernel_rfl) (fun _ _ _ h => h) (Or.inl ⟨by kernel_rfl, ?b16_hy8⟩) (by assumption) ?b16_rest8
              case b16_hy8 => (intro w hSw; (try dsimp only at hSw); go_simp; try (with_reducible rfl))
              try simp only [Act.put, lay1, lay2, lay3, lay4, lay5, lay6]
              refine wpAnyH_take (i := 9) (v := ?b16_v9) rfl (by kernel_rfl) (by kernel_rfl) (by kernel_rfl) (fun _ _ _ h => h) (Or.inl ⟨by kernel_rfl, ?b16_hy9⟩) (by assumption) ?b16_rest9
              case b16_hy9 => (intro w hSw; (try dsimp only at hSw); go_simp; try (with_reducible rfl))
              try simp only [Act.put, lay1, lay2, lay3, lay4, lay5, lay6]
              refine wpAnyH_take (i := 10) (v := undef) rfl (by kernel_rfl) (by kernel_rfl) (by kernel_rfl) (fun _ _ _ h => h) (Or.inr ⟨by kernel_rfl, rfl⟩) (by assumption) ?_
              try simp only [Act.put, lay1, lay2, lay3, lay4, lay5, lay6]
              refine wpAnyH_take (i := 11) (v := undef) rfl (by kernel_rfl) (by kernel_rfl) (by kernel_rfl) (fun _ _ _ h => h) (Or.inr ⟨by kernel_rfl, rfl⟩) (by assumption) ?_
              try simp only [Act.put, lay1, lay2, lay3, lay4, lay5, lay6]
              refine wpAnyH_take (i := 12) (v := undef) rfl (by kernel_rfl) (by kernel_rfl) (by kernel_rfl) (fun _ _ _ h => h) (Or.inr ⟨by kernel_rfl, rfl⟩) (by assumption) ?_
              try simp only [Act.put, lay1, lay2, lay3, lay4, lay5, lay6]
              refine wpAnyH_take (i := 13) (v := undef) rfl (by kernel_rfl) (by kernel_rfl) (by kernel_rfl) (fun _ _ _ h => h) (Or.inr ⟨by kernel_rfl, rfl⟩) (by assumption) ?_
              try simp only [Act.put, lay1, lay2, lay3, lay4, lay5, lay6]
              refine wpAnyH_take (i := 14) (v := undef) rfl (by kernel_rfl) (by kernel_rfl) (by kernel_rfl) (fun _ _ _ h => h) (Or.inr ⟨by kernel_rfl, rfl⟩) (by assumption) ?_
              try simp only [Act.put, lay1, lay2, lay3, lay4, lay5, lay6]
              refine wpAnyH_take (i := 15) (v := undef) rfl (by kernel_rfl) (by kernel_rfl) (by kernel_rfl) (fun _ _ _ h => h) (Or.inr ⟨by kernel_rfl, rfl⟩) (by assumption) ?_
              try simp only [Act.put, lay1, lay2, lay3, lay4, lay5, lay6]
              refine wpAnyH_take (i := 16) (v := undef) rfl (by kernel_rfl) (by kernel_rfl) (by kernel_rfl) (fun _ _ _ h => h) (Or.inr ⟨by kernel_rfl, rfl⟩) (by assumption) ?_
              try simp only [Act.put, lay1, lay2, lay3, lay4, lay5, lay6]
              refine wpAnyH_take (i := 17) (v := undef) rfl (by kernel_rfl) (by kernel_rfl) (by kernel_rfl) (fun _ _ _ h => h) (Or.inr ⟨by kernel_rfl, rfl⟩) (by assumption) ?_
              try simp only [Act.put, lay1, lay2, lay3, lay4, lay5, lay6]
              refine wpAnyH_take (i := 18) (v := undef) rfl (by kernel_rfl) (by kernel_rfl) (by kernel_rfl) (fun _ _ _ h => h) (Or.inr ⟨by kernel_rfl, rfl⟩) (by assumption) ?_
              try simp only [Act.put, lay1, lay2, lay3, lay4, lay5, lay6]
              refine wpAnyH_take (i := 19) (v := undef) rfl (by kernel_rfl) (by kernel_rfl) (by kernel_rfl) (fun _ _ _ h => h) (Or.inr ⟨by kernel_rfl, rfl⟩) (by assumption) ?_
              try simp only [Act.put, lay1, lay2, lay3, lay4, lay5, lay6]
              refine wpAnyH_take (i := 20) (v := undef) rfl (by kernel_rfl) (by kernel_rfl) (by kernel_rfl) (fun _ _ _ h => h) (Or.inr ⟨by kernel_rfl, rfl⟩) (by assumption) ?_
              try simp only [Act.put, lay1, lay2, lay3, lay4, lay5, lay6]
              refine wpAnyH_take (i := 21) (v := undef) rfl (by kernel_rfl) (by kernel_rfl) (by kernel_rfl) (fun _ _ _ h => h) (Or.inr ⟨by kernel_rfl, rfl⟩) (by assumption) ?_
              try simp only [Act.put, lay1, lay2, lay3, lay4, lay5, lay6]
              try dsimp only
              try simp only [Act.put, lay1, lay2, lay3, lay4, lay5, lay6]
              refine wpAnyH_take (i := 22) (v := undef) rfl (by kernel_rfl) (by kernel_rfl) (by kernel_rfl) (fun _ _ _ h => h) (Or.inr ⟨by kernel_rfl, rfl⟩) (by assumption) ?_
              try simp only [Act.put, lay1, lay2, lay3, lay4, lay5, lay6]
              try dsimp only
              try simp only [Act.put, lay1, lay2, lay3, lay4, lay5, lay6]
              refine wpAnyH_take (i := 23) (v := ?b16_v23) rfl (by kernel_rfl) (by kernel_rfl) (by kernel_rfl) (fun _ _ _ h => h) (Or.inl ⟨by kernel_rfl, ?b16_hy23⟩) (by assumption) ?b16_rest23
              case b16_hy23 => (intro w hSw; (try dsimp only at hSw); go_simp; try (with_reducible rfl))
              try simp only [Act.put, lay1, lay2, lay3, lay4, lay5, lay6]
              try dsimp only
              try simp only [Act.put, lay1, lay2, lay3, lay4, lay5, lay6]
              refine wpAnyH_done (by kernel_rfl) ?_ _
              refine NoPanic.normal ?_
              replace hx := hx.below d1
              replace hX := hX.below d1 hX.lt
              replace hKp := hKp.below d1 hKp.lt
              replace hbk := hbk.below d1
              replace hi1 := hi1.below d1
              replace hY := hY.below d1 hY.lt
              replace hB := hB.trans (d1.mono hB.size)
              clear c8_hX_0 c8_hX_1 c8_hX_2 c8_hX_3 c8_hX_4 c8_hX_5 c8_hKp_0 c8_hKp_1 c8_hKp_2 c8_hKp_3 c8_hY_0 c8_hY_1 c8_hY_2 c8_hY_3
              obtain ⟨c9_hX_0, c9_hX_1, c9_hX_2, c9_hX_3, c9_hX_4, c9_hX_5⟩ := hX.cells6
              obtain ⟨c9_hKp_0, c9_hKp_1, c9_hKp_2, c9_hKp_3⟩ := hKp.quad
              obtain ⟨c9_hY_0, c9_hY_1, c9_hY_2, c9_hY_3⟩ := hY.quad
              go_wp2
              go_ret
              exact ⟨congrArg (fun b => Ending.returned (Value.bool b)) HRES.out.symm, hB⟩
    · obtain rfl : j = bs.length := by omega
      have HRES := Lib.hid hok.out
      go_wp2
      go_ret
      exact ⟨congrArg (fun b => Ending.returned (Value.bool b)) HRES.out.symm, hB⟩
theorem tright_any (v : Value) (s : St) (w : World) (h : IsSt w v s) (hlb : LongB s.2.2.2.2.2) :
    Calls Tryz.prog 11 #[v] w fun e w' => e = .returned (.bool (rightS s)) ∧ Below w.heap.size w w' := by
  obtain ⟨k, z, m, o, n, bs⟩ := s
  simp only [rightS]
  by_cases hm : mayB k z m o = true
  · rw [hm, Bool.true_and]
    by_cases hn : 0 ≤ n
    · by_cases hn2 : n ≤ 4096
      · have e : ((partN z.toNat n.toNat : Nat) : Int) = (n + z - 1) / z := by
          obtain ⟨Z, rfl, z1, z2⟩ := size_of hm
          obtain ⟨N, rfl⟩ := Int.eq_ofNat_of_zero_le hn
          rw [Int.toNat_natCast, Int.toNat_natCast, partN_int z1]
        by_cases hb : (bs.length : Int) = (partN z.toNat n.toNat : Nat)
        · rw [decide_eq_true ⟨hn, hn2, hb.trans e⟩, Bool.true_and]
          exact tright_main v k z m o n bs w h hm hn hn2 hb hlb
        · rw [decide_eq_false (fun h => hb (h.2.2.trans e.symm)), Bool.false_and]
          exact tright_len v k z m o n bs w h hm hn hn2 hb
      · rw [decide_eq_false (fun h => hn2 h.2.1), Bool.false_and]
        exact tright_big v k z m o n bs w h hm hn (by omega)
    · rw [decide_eq_false (fun h => hn h.1), Bool.false_and]
      exact tright_neg v k z m o n bs w h hm (by omega)
  · have hm' : mayB k z m o = false := by simpa using hm
    rw [hm', Bool.false_and]
    exact tright_may v k z m o n bs w h hm'
end Go.Proofs.YtochabikpaoalaaGreat
