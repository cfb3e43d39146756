/- The reference of layer 14: Right, the loop over the blocks. Printed by gen_ref14r.py. -/
import Derived.Test.YtochabikpaoalaaGreatRef14r
import Derived.Deep.RegionHeld3
import Derived.Deep.DrawnRows
namespace Go.Proofs.YtochabikpaoalaaGreat
open Go.RowKit
attribute [local go_sem ↓] Go.wp_at_zero Go.wp_at_succ
theorem blkR_wide {s : Int} {cs : List Nat} {wd : List Int} (h : blkR 4 s cs wd = true) : ∀ x ∈ wd, x ≠ -9223372036854775808 := by
  intro x hx e
  unfold blkR at h
  rw [if_pos rfl] at h
  simp only [Bool.and_eq_true, Bool.not_eq_true', decide_eq_true_eq] at h
  have := h.2.2.2
  rw [e] at hx
  rw [List.contains_iff_mem.2 hx] at this
  cases this
set_option maxRecDepth 100000 in
set_option maxHeartbeats 8000000 in
theorem rright14_main (v : Value) (k z m o n : Int) (bs : List Bk) (w : World) (h : IsSt w v (k, z, m, o, n, bs)) (hm : mayB k z m o = true) (hn : 0 ≤ n) (hn2 : n ≤ 4096) (hb : (bs.length : Int) = (partN z.toNat n.toNat : Nat)) (hlb : ∀ b ∈ bs, BkIn b) :
    Calls Tryz.prog 8 #[v] w fun e w' => e = .returned (.bool (okTo k z m o n bs bs.length)) ∧ Below w.heap.size w w' := by
  obtain ⟨x, rfl, hx⟩ := h
  simp only at hx ⊢
  obtain ⟨A, c, rfl, hc1, hc2⟩ := hx.len
  have hM := fun w => rmay14_any k z m o w
  rw [hm] at hM
  have n1 : decide (n < 0) = false := decide_eq_false (by omega)
  have n2 : decide (4096 < n) = false := decide_eq_false (by omega)
  obtain ⟨Z, rfl, z1, z2⟩ := size_of hm
  obtain ⟨N, rfl⟩ := Int.eq_ofNat_of_zero_le hn
  have hN : N ≤ 4096 := by omega
  obtain ⟨s1, hs1⟩ : ∃ s1 : Int, s1 = (N : Int) + (Z : Int) := ⟨_, rfl⟩
  obtain ⟨s2, hs2⟩ : ∃ s2 : Int, s2 = s1 - 1 := ⟨_, rfl⟩
  obtain ⟨q, hq⟩ : ∃ q : Int, q = ((partN Z N : Nat) : Int) := ⟨_, rfl⟩
  have hw1 : IntKind.i64.wrap ((N : Int) + (Z : Int)) = s1 := by rw [IntKind.wrap_i64, hs1]; omega
  have hw2 : IntKind.i64.wrap (s1 - 1) = s2 := by rw [IntKind.wrap_i64, hs2, hs1]; omega
  have hq0 : s2.tdiv (Z : Int) = q := by
    rw [hq, hs2, hs1, partN_int z1, Int.tdiv_eq_ediv_of_nonneg (by omega)]
  have hqb : 0 ≤ q ∧ q ≤ 4096 := by rw [hq]; have := partN_le (n := N) z1; omega
  have hw3 : IntKind.i64.wrap (s2.tdiv (Z : Int)) = q := by rw [hq0, IntKind.wrap_i64]; omega
  have hz0 : ((Z : Int) == 0) = false := by rw [beq_eq_false_iff_ne]; omega
  have hz3 : (Z : Int) ≠ 0 := by omega
  have hz4 : ¬ Z = 0 := by omega
  rw [Int.toNat_natCast, Int.toNat_natCast, ← hq] at hb
  have hbe : ((bs.length : Int) != q) = false := by rw [hb]; simp
  have hbe2 : decide ((bs.length : Int) = q) = true := decide_eq_true hb
  have hbn : bs.length ≤ 4096 := by omega
  obtain ⟨k0_, k3_, _⟩ := mayB_iff.1 hm
  clear hq hb
  clear hs1 hs2 hq0 hqb
  obtain ⟨W0, hW, hR, hB⟩ := box1 w 26 #[.int .i64 k, .int .i64 Z, .int .i64 m, .int .i64 o, .int .i64 N, .slice A bs.length c]
  obtain ⟨g, hg⟩ : ∃ g, g = w.heap.size := ⟨_, rfl⟩
  have hW' := Lib.hid (And.intro hW hg)
  rw [← hg] at hR
  have hgw : w.heap.size ≤ g := by omega
  clear hW hg
  have hX := hR
  replace hx := hx.below hB
  obtain ⟨c1_hX_0, c1_hX_1, c1_hX_2, c1_hX_3, c1_hX_4, c1_hX_5⟩ := hX.cells6
  go_enter Tryz.func8, Tryz.ntmps8
  go_upto_region 1 with fail
  rw [← hW'.out.1, ← hW'.out.2]
  refine wp_region_noPanic ?_
  refine wp_region_held_drew (S := fun w' => w'.cell? ⟨g, 0, none⟩ = some (.int .i64 k) ∧ w'.cell? ⟨g, 1, none⟩ = some (.int .i64 Z) ∧ w'.cell? ⟨g, 2, none⟩ = some (.int .i64 m) ∧ w'.cell? ⟨g, 3, none⟩ = some (.int .i64 o) ∧ w'.cell? ⟨g, 4, none⟩ = some (.int .i64 N) ∧ w'.cell? ⟨g, 5, none⟩ = some (.slice A bs.length c)) (by kernel_rfl) ?_ (fun hHeld => ?_)
  · exact ⟨(hX.below (by first | assumption | exact bdrew _ | exact Below.refl _ _) hX.lt).cell 0, (hX.below (by first | assumption | exact bdrew _ | exact Below.refl _ _) hX.lt).cell 1, (hX.below (by first | assumption | exact bdrew _ | exact Below.refl _ _) hX.lt).cell 2, (hX.below (by first | assumption | exact bdrew _ | exact Below.refl _ _) hX.lt).cell 3, (hX.below (by first | assumption | exact bdrew _ | exact Below.refl _ _) hX.lt).cell 4, (hX.below (by first | assumption | exact bdrew _ | exact Below.refl _ _) hX.lt).cell 5⟩
  refine wpAnyH_take (i := 0) (v := ?b5_v0) rfl (by kernel_rfl) (by kernel_rfl) (by kernel_rfl) (fun _ _ _ h => h) (Or.inl ⟨by kernel_rfl, ?b5_hy0⟩) (by assumption) ?b5_rest0
  case b5_hy0 => (intro w hSw; (try dsimp only at hSw); go_simp; try (with_reducible rfl))
  try simp only [Act.put, lay1, lay2, lay3, lay4, lay5, lay6]
  refine wpAnyH_take (i := 1) (v := ?b5_v1) rfl (by kernel_rfl) (by kernel_rfl) (by kernel_rfl) (fun _ _ _ h => h) (Or.inl ⟨by kernel_rfl, ?b5_hy1⟩) (by assumption) ?b5_rest1
  case b5_hy1 => (intro w hSw; (try dsimp only at hSw); go_simp; try (with_reducible rfl))
  try simp only [Act.put, lay1, lay2, lay3, lay4, lay5, lay6]
  refine wpAnyH_ready (rs := [2]) (by kernel_rfl) (by simp) ?_
  refine AllReadyH.cons rfl (fun K hK => ?_) AllReadyH.nil
  go_simp
  refine (hM _).mono ?_
  rintro e w1 ⟨rfl, b1⟩
  have b1 := bstep (bdrew W0) b1
  go_wp2_with fail
  refine hK.out _ _ ?_ (fun hHeld => ?_)
  · exact ⟨(hX.below (by first | assumption | exact bdrew _ | exact Below.refl _ _) hX.lt).cell 0, (hX.below (by first | assumption | exact bdrew _ | exact Below.refl _ _) hX.lt).cell 1, (hX.below (by first | assumption | exact bdrew _ | exact Below.refl _ _) hX.lt).cell 2, (hX.below (by first | assumption | exact bdrew _ | exact Below.refl _ _) hX.lt).cell 3, (hX.below (by first | assumption | exact bdrew _ | exact Below.refl _ _) hX.lt).cell 4, (hX.below (by first | assumption | exact bdrew _ | exact Below.refl _ _) hX.lt).cell 5⟩
  clear hK K
  try simp only [Act.put, lay1, lay2, lay3, lay4, lay5, lay6]
  refine wpAnyH_take (i := 3) (v := ?b5_v3) rfl (by kernel_rfl) (by kernel_rfl) (by kernel_rfl) (fun _ _ _ h => h) (Or.inl ⟨by kernel_rfl, ?b5_hy3⟩) (by assumption) ?b5_rest3
  case b5_hy3 => (intro w hSw; (try dsimp only at hSw); go_simp; try (with_reducible rfl))
  try simp only [Act.put, lay1, lay2, lay3, lay4, lay5, lay6]
  refine wpAnyH_take (i := 4) (v := ?b5_v4) rfl (by kernel_rfl) (by kernel_rfl) (by kernel_rfl) (fun _ _ _ h => h) (Or.inl ⟨by kernel_rfl, ?b5_hy4⟩) (by assumption) ?b5_rest4
  case b5_hy4 => (intro w hSw; (try dsimp only at hSw); go_simp; try (with_reducible rfl))
  try simp only [Act.put, lay1, lay2, lay3, lay4, lay5, lay6]
  refine wpAnyH_take (i := 5) (v := ?b5_v5) rfl (by kernel_rfl) (by kernel_rfl) (by kernel_rfl) (fun _ _ _ h => h) (Or.inl ⟨by kernel_rfl, ?b5_hy5⟩) (by assumption) ?b5_rest5
  case b5_hy5 => (intro w hSw; (try dsimp only at hSw); go_simp; try (with_reducible rfl))
  try simp only [Act.put, lay1, lay2, lay3, lay4, lay5, lay6]
  refine wpAnyH_take (i := 6) (v := ?b5_v6) rfl (by kernel_rfl) (by kernel_rfl) (by kernel_rfl) (fun _ _ _ h => h) (Or.inl ⟨by kernel_rfl, ?b5_hy6⟩) (by assumption) ?b5_rest6
  case b5_hy6 => (intro w hSw; (try dsimp only at hSw); go_simp; try (with_reducible rfl))
  try simp only [Act.put, lay1, lay2, lay3, lay4, lay5, lay6]
  refine wpAnyH_take (i := 7) (v := ?b5_v7) rfl (by kernel_rfl) (by kernel_rfl) (by kernel_rfl) (fun _ _ _ h => h) (Or.inl ⟨by kernel_rfl, ?b5_hy7⟩) (by assumption) ?b5_rest7
  case b5_hy7 => (intro w hSw; (try dsimp only at hSw); go_simp; try (with_reducible rfl))
  try simp only [Act.put, lay1, lay2, lay3, lay4, lay5, lay6]
  refine wpAnyH_take (i := 8) (v := ?b5_v8) rfl (by kernel_rfl) (by kernel_rfl) (by kernel_rfl) (fun _ _ _ h => h) (Or.inl ⟨by kernel_rfl, ?b5_hy8⟩) (by assumption) ?b5_rest8
  case b5_hy8 => (intro w hSw; (try dsimp only at hSw); go_simp; try (with_reducible rfl))
  try simp only [Act.put, lay1, lay2, lay3, lay4, lay5, lay6]
  refine wpAnyH_take (i := 9) (v := ?b5_v9) rfl (by kernel_rfl) (by kernel_rfl) (by kernel_rfl) (fun _ _ _ h => h) (Or.inl ⟨by kernel_rfl, ?b5_hy9⟩) (by assumption) ?b5_rest9
  case b5_hy9 => (intro w hSw; (try dsimp only at hSw); go_simp; try (with_reducible rfl))
  try simp only [Act.put, lay1, lay2, lay3, lay4, lay5, lay6]
  refine wpAnyH_take (i := 10) (v := ?b5_v10) rfl (by kernel_rfl) (by kernel_rfl) (by kernel_rfl) (fun _ _ _ h => h) (Or.inl ⟨by kernel_rfl, ?b5_hy10⟩) (by assumption) ?b5_rest10
  case b5_hy10 => (intro w hSw; (try dsimp only at hSw); go_simp; try (with_reducible rfl))
  try simp only [Act.put, lay1, lay2, lay3, lay4, lay5, lay6]
  refine wpAnyH_take (i := 11) (v := ?b5_v11) rfl (by kernel_rfl) (by kernel_rfl) (by kernel_rfl) (fun _ _ _ h => h) (Or.inl ⟨by kernel_rfl, ?b5_hy11⟩) (by assumption) ?b5_rest11
  case b5_hy11 => (intro w hSw; (try dsimp only at hSw); go_simp; try (with_reducible rfl))
  try simp only [Act.put, lay1, lay2, lay3, lay4, lay5, lay6]
  refine wpAnyH_take (i := 12) (v := ?b5_v12) rfl (by kernel_rfl) (by kernel_rfl) (by kernel_rfl) (fun _ _ _ h => h) (Or.inl ⟨by kernel_rfl, ?b5_hy12⟩) (by assumption) ?b5_rest12
  case b5_hy12 => (intro w hSw; (try dsimp only at hSw); go_simp; try (with_reducible rfl))
  try simp only [Act.put, lay1, lay2, lay3, lay4, lay5, lay6]
  refine wpAnyH_take (i := 13) (v := ?b5_v13) rfl (by kernel_rfl) (by kernel_rfl) (by kernel_rfl) (fun _ _ _ h => h) (Or.inl ⟨by kernel_rfl, ?b5_hy13⟩) (by assumption) ?b5_rest13
  case b5_hy13 => (intro w hSw; (try dsimp only at hSw); go_simp; try (with_reducible rfl))
  try simp only [Act.put, lay1, lay2, lay3, lay4, lay5, lay6]
  refine wpAnyH_take (i := 14) (v := ?b5_v14) rfl (by kernel_rfl) (by kernel_rfl) (by kernel_rfl) (fun _ _ _ h => h) (Or.inl ⟨by kernel_rfl, ?b5_hy14⟩) (by assumption) ?b5_rest14
  case b5_hy14 => (intro w hSw; (try dsimp only at hSw); go_simp; try (with_reducible rfl))
  try simp only [Act.put, lay1, lay2, lay3, lay4, lay5, lay6]
  refine wpAnyH_take (i := 15) (v := ?b5_v15) rfl (by kernel_rfl) (by kernel_rfl) (by kernel_rfl) (fun _ _ _ h => h) (Or.inl ⟨by kernel_rfl, ?b5_hy15⟩) (by assumption) ?b5_rest15
  case b5_hy15 => (intro w hSw; (try dsimp only at hSw); go_simp; try (with_reducible rfl))
  try simp only [Act.put, lay1, lay2, lay3, lay4, lay5, lay6]
  refine wpAnyH_take (i := 16) (v := ?b5_v16) rfl (by kernel_rfl) (by kernel_rfl) (by kernel_rfl) (fun _ _ _ h => h) (Or.inl ⟨by kernel_rfl, ?b5_hy16⟩) (by assumption) ?b5_rest16
  case b5_hy16 => (intro w hSw; (try dsimp only at hSw); go_simp; try (with_reducible rfl))
  try simp only [Act.put, lay1, lay2, lay3, lay4, lay5, lay6]
  refine wpAnyH_take (i := 17) (v := ?b5_v17) rfl (by kernel_rfl) (by kernel_rfl) (by kernel_rfl) (fun _ _ _ h => h) (Or.inl ⟨by kernel_rfl, ?b5_hy17⟩) (by assumption) ?b5_rest17
  case b5_hy17 => (intro w hSw; (try dsimp only at hSw); go_simp; try (with_reducible rfl))
  try simp only [Act.put, lay1, lay2, lay3, lay4, lay5, lay6]
  refine wpAnyH_take (i := 18) (v := ?b5_v18) rfl (by kernel_rfl) (by kernel_rfl) (by kernel_rfl) (fun _ _ _ h => h) (Or.inl ⟨by kernel_rfl, ?b5_hy18⟩) (by assumption) ?b5_rest18
  case b5_hy18 => (intro w hSw; (try dsimp only at hSw); go_simp; try (with_reducible rfl))
  try simp only [Act.put, lay1, lay2, lay3, lay4, lay5, lay6]
  refine wpAnyH_take (i := 19) (v := ?b5_v19) rfl (by kernel_rfl) (by kernel_rfl) (by kernel_rfl) (fun _ _ _ h => h) (Or.inl ⟨by kernel_rfl, ?b5_hy19⟩) (by assumption) ?b5_rest19
  case b5_hy19 => (intro w hSw; (try dsimp only at hSw); go_simp; try (with_reducible rfl))
  try simp only [Act.put, lay1, lay2, lay3, lay4, lay5, lay6]
  refine wpAnyH_take (i := 20) (v := ?b5_v20) rfl (by kernel_rfl) (by kernel_rfl) (by kernel_rfl) (fun _ _ _ h => h) (Or.inl ⟨by kernel_rfl, ?b5_hy20⟩) (by assumption) ?b5_rest20
  case b5_hy20 => (intro w hSw; (try dsimp only at hSw); go_simp; try (with_reducible rfl))
  try simp only [Act.put, lay1, lay2, lay3, lay4, lay5, lay6]
  refine wpAnyH_take (i := 21) (v := ?b5_v21) rfl (by kernel_rfl) (by kernel_rfl) (by kernel_rfl) (fun _ _ _ h => h) (Or.inl ⟨by kernel_rfl, ?b5_hy21⟩) (by assumption) ?b5_rest21
  case b5_hy21 => (intro w hSw; (try dsimp only at hSw); go_simp; try (with_reducible rfl))
  try simp only [Act.put, lay1, lay2, lay3, lay4, lay5, lay6]
  refine wpAnyH_take (i := 22) (v := ?b5_v22) rfl (by kernel_rfl) (by kernel_rfl) (by kernel_rfl) (fun _ _ _ h => h) (Or.inl ⟨by kernel_rfl, ?b5_hy22⟩) (by assumption) ?b5_rest22
  case b5_hy22 => (intro w hSw; (try dsimp only at hSw); go_simp; try (with_reducible rfl))
  try simp only [Act.put, lay1, lay2, lay3, lay4, lay5, lay6]
  refine wpAnyH_take (i := 23) (v := ?b5_v23) rfl (by kernel_rfl) (by kernel_rfl) (by kernel_rfl) (fun _ _ _ h => h) (Or.inl ⟨by kernel_rfl, ?b5_hy23⟩) (by assumption) ?b5_rest23
  case b5_hy23 => (intro w hSw; (try dsimp only at hSw); go_simp; try (with_reducible rfl))
  try simp only [Act.put, lay1, lay2, lay3, lay4, lay5, lay6]
  refine wpAnyH_take (i := 24) (v := ?b5_v24) rfl (by kernel_rfl) (by kernel_rfl) (by kernel_rfl) (fun _ _ _ h => h) (Or.inl ⟨by kernel_rfl, ?b5_hy24⟩) (by assumption) ?b5_rest24
  case b5_hy24 => (intro w hSw; (try dsimp only at hSw); go_simp; try (with_reducible rfl))
  try simp only [Act.put, lay1, lay2, lay3, lay4, lay5, lay6]
  refine wpAnyH_take (i := 25) (v := ?b5_v25) rfl (by kernel_rfl) (by kernel_rfl) (by kernel_rfl) (fun _ _ _ h => h) (Or.inl ⟨by kernel_rfl, ?b5_hy25⟩) (by assumption) ?b5_rest25
  case b5_hy25 => (intro w hSw; (try dsimp only at hSw); go_simp; try (with_reducible rfl))
  try simp only [Act.put, lay1, lay2, lay3, lay4, lay5, lay6]
  refine wpAnyH_take (i := 26) (v := ?b5_v26) rfl (by kernel_rfl) (by kernel_rfl) (by kernel_rfl) (fun _ _ _ h => h) (Or.inl ⟨by kernel_rfl, ?b5_hy26⟩) (by assumption) ?b5_rest26
  case b5_hy26 => (intro w hSw; (try dsimp only at hSw); go_simp; try (with_reducible rfl))
  try simp only [Act.put, lay1, lay2, lay3, lay4, lay5, lay6]
  refine wpAnyH_take (i := 27) (v := ?b5_v27) rfl (by kernel_rfl) (by kernel_rfl) (by kernel_rfl) (fun _ _ _ h => h) (Or.inl ⟨by kernel_rfl, ?b5_hy27⟩) (by assumption) ?b5_rest27
  case b5_hy27 => (intro w hSw; (try dsimp only at hSw); go_simp; try (with_reducible rfl))
  try simp only [Act.put, lay1, lay2, lay3, lay4, lay5, lay6]
  refine wpAnyH_take (i := 28) (v := ?b5_v28) rfl (by kernel_rfl) (by kernel_rfl) (by kernel_rfl) (fun _ _ _ h => h) (Or.inl ⟨by kernel_rfl, ?b5_hy28⟩) (by assumption) ?b5_rest28
  case b5_hy28 => (intro w hSw; (try dsimp only at hSw); go_simp; try (with_reducible rfl))
  try simp only [Act.put, lay1, lay2, lay3, lay4, lay5, lay6]
  try dsimp only
  try simp only [Act.put, lay1, lay2, lay3, lay4, lay5, lay6]
  refine wpAnyH_take (i := 29) (v := ?b5_v29) rfl (by kernel_rfl) (by kernel_rfl) (by kernel_rfl) (fun _ _ _ h => h) (Or.inl ⟨by kernel_rfl, ?b5_hy29⟩) (by assumption) ?b5_rest29
  case b5_hy29 => (intro w hSw; (try dsimp only at hSw); go_simp; try (with_reducible rfl))
  try simp only [Act.put, lay1, lay2, lay3, lay4, lay5, lay6]
  try dsimp only
  try simp only [Act.put, lay1, lay2, lay3, lay4, lay5, lay6]
  refine wpAnyH_take (i := 30) (v := ?b5_v30) rfl (by kernel_rfl) (by kernel_rfl) (by kernel_rfl) (fun _ _ _ h => h) (Or.inl ⟨by kernel_rfl, ?b5_hy30⟩) (by assumption) ?b5_rest30
  case b5_hy30 => (intro w hSw; (try dsimp only at hSw); go_simp; try (with_reducible rfl))
  try simp only [Act.put, lay1, lay2, lay3, lay4, lay5, lay6]
  try dsimp only
  try simp only [Act.put, lay1, lay2, lay3, lay4, lay5, lay6]
  refine wpAnyH_done (by kernel_rfl) ?_ _
  refine NoPanic.normal ?_
  replace hx := hx.below b1
  replace hX := hX.below b1 hX.lt
  replace hB := hB.trans (b1.mono hB.size)
  clear c1_hX_0 c1_hX_1 c1_hX_2 c1_hX_3 c1_hX_4 c1_hX_5
  obtain ⟨c2_hX_0, c2_hX_1, c2_hX_2, c2_hX_3, c2_hX_4, c2_hX_5⟩ := hX.cells6
  have c5 := hX.cell 5
  go_wp2
  clear c5 c2_hX_0 c2_hX_1 c2_hX_2 c2_hX_3 c2_hX_4 c2_hX_5
  go_loopw [3] (fun i wr => ∃ j : Nat, i = .int .i64 j ∧ j ≤ bs.length ∧ Hid (okTo k Z m o N bs j = true) ∧ Below w1.heap.size w1 wr) (fun i _ => bs.length - (intOf i).toNat)
  case atStart => exact ⟨0, rfl, by omega, Lib.hid rfl, Below.refl _ _⟩
  case round =>
    obtain ⟨j, rfl, hj, hok, bl⟩ := hrel
    replace hx := hx.below bl
    replace hX := hX.below bl hX.lt
    replace hB := hB.trans (bl.mono hB.size)
    obtain ⟨c3_hX_0, c3_hX_1, c3_hX_2, c3_hX_3, c3_hX_4, c3_hX_5⟩ := hX.cells6
    by_cases hlt : j < bs.length
    · obtain ⟨ad, d1, k1, sc, cs, wd, a1, a2, e1, _, hat, x0, x1, x2, x3, hy, hi1⟩ := hx.at_ hlt
      obtain ⟨rfl, _, rfl⟩ := Value.slice.inj e1
      obtain ⟨P1, Q1, rfl, _, _⟩ := id hy.form
      obtain ⟨P2, Q2, rfl, _, _⟩ := id hi1.form
      have hg : bs[j]?.getD (0, 0, [], []) = (k1, sc, cs, wd) := by rw [hat]; rfl
      have HS := Lib.hid (show okTo k Z m o N bs (j + 1) = okAt k Z m o N (k1, sc, cs, wd) j by rw [okTo_succ, hok.out, Bool.true_and, hg])
      obtain ⟨_, _, hwi, l1, l2⟩ := hlb _ (mem_at hat)
      simp only at hwi l1 l2
      have i0 : (0 : Int) ≤ (j : Int) := by omega
      have i1 : (j : Int) < (bs.length : Int) := by omega
      have hjn : j ≤ 4096 := by omega
      obtain ⟨p, hp⟩ : ∃ p : Nat, p = j * Z := ⟨_, rfl⟩
      have hpb : p ≤ 16777216 := by rw [hp]; exact Nat.le_trans (Nat.mul_le_mul hjn z2) (by decide)
      have hp1 : IntKind.i64.wrap ((j : Int) * (Z : Int)) = (p : Int) := by rw [← Int.natCast_mul, ← hp, IntKind.wrap_i64]; omega
      obtain ⟨d, hd⟩ : ∃ d : Int, d = (N : Int) - (p : Int) := ⟨_, rfl⟩
      have hp2 : IntKind.i64.wrap ((N : Int) - (p : Int)) = d := by rw [hd, IntKind.wrap_i64]; omega
      have hR := fun v w h => rbright_any v k1 sc cs wd w h (by omega) l2
      have hLn := fun v w h => rblen_any v k1 sc cs wd w h (by omega) l2
      obtain ⟨ln, hln⟩ : ∃ ln : Int, ln = (cs.length : Int) + wd.length := ⟨_, rfl⟩
      rw [← hln] at hLn
      have HOK := Lib.hid (show okAt k Z m o N (k1, sc, cs, wd) j = (blkR k1 sc cs wd && (decide (k1 = if staysB m o N (if k1 = 4 then greatW wd else sc) = true then 4 else k) && decide (ln = min (Z : Int) d))) by
        unfold okAt bkR bkLen
        simp only
        rw [hln, hd, hp]; push_cast; rfl)
      have hbk : IsBk wr (.agg #[.int .i64 k1, .int .i64 sc, .slice P1 cs.length Q1, .slice P2 wd.length Q2]) k1 sc cs wd := ⟨_, _, rfl, hy, hi1⟩
      clear hg hat hjn hp hpb hd hln hy
      have hBr := Below.refl wr.heap.size wr
      obtain ⟨V1, eV, hY, bV1⟩ := box1 wr 43 #[.int .i64 k1, .int .i64 sc, .slice P1 cs.length Q1, .slice P2 wd.length Q2]
      obtain ⟨X1, eX⟩ : ∃ X, X = wr.heap.size := ⟨_, rfl⟩
      rw [← eX] at hY
      have EV1 := Lib.hid (And.intro eV eX)
      clear eV eX
      go_upto_region 7 with fail
      rw [← EV1.out.1, ← EV1.out.2]
      replace hx := hx.below bV1
      replace hX := hX.below bV1 hX.lt
      replace hbk := hbk.below bV1
      replace hi1 := hi1.below bV1
      replace hB := hB.trans (bV1.mono hB.size)
      clear c3_hX_0 c3_hX_1 c3_hX_2 c3_hX_3 c3_hX_4 c3_hX_5
      obtain ⟨c4_hX_0, c4_hX_1, c4_hX_2, c4_hX_3, c4_hX_4, c4_hX_5⟩ := hX.cells6
      clear c4_hX_0 c4_hX_1 c4_hX_2 c4_hX_3 c4_hX_4 c4_hX_5
      obtain ⟨c5_hX_0, c5_hX_1, c5_hX_2, c5_hX_3, c5_hX_4, c5_hX_5⟩ := hX.cells6
      obtain ⟨c5_hY_0, c5_hY_1, c5_hY_2, c5_hY_3⟩ := hY.quad
      replace hBr := bstep hBr bV1
      clear c5_hX_0 c5_hX_1 c5_hX_2 c5_hX_3 c5_hX_4 c5_hX_5 c5_hY_0 c5_hY_1 c5_hY_2 c5_hY_3
      cases hbr : blkR k1 sc cs wd
      · rw [hbr] at hR
        have hres : okTo k Z m o N bs (j + 1) = false := by rw [HS.out, HOK.out, hbr]; rfl
        have HRES := Lib.hid (okTo_le hres (show j + 1 ≤ bs.length by omega))
        clear hres hbr
        refine wp_region_noPanic ?_
        refine wp_region_held_drew (S := fun w' => w'.cell? ⟨X1, 0, none⟩ = some (.int .i64 k1) ∧ w'.cell? ⟨X1, 1, none⟩ = some (.int .i64 sc) ∧ w'.cell? ⟨X1, 2, none⟩ = some (.slice P1 cs.length Q1) ∧ w'.cell? ⟨X1, 3, none⟩ = some (.slice P2 wd.length Q2) ∧ w'.cell? ⟨g, 0, none⟩ = some (.int .i64 k) ∧ w'.cell? ⟨g, 1, none⟩ = some (.int .i64 Z) ∧ w'.cell? ⟨g, 2, none⟩ = some (.int .i64 m) ∧ w'.cell? ⟨g, 3, none⟩ = some (.int .i64 o) ∧ w'.cell? ⟨g, 4, none⟩ = some (.int .i64 N)) (by kernel_rfl) ?_ (fun hHeld => ?_)
        · exact ⟨(hY.below (by first | assumption | exact bdrew _) hY.lt).cell 0, (hY.below (by first | assumption | exact bdrew _) hY.lt).cell 1, (hY.below (by first | assumption | exact bdrew _) hY.lt).cell 2, (hY.below (by first | assumption | exact bdrew _) hY.lt).cell 3, (hX.below (by first | assumption | exact bdrew _) hX.lt).cell 0, (hX.below (by first | assumption | exact bdrew _) hX.lt).cell 1, (hX.below (by first | assumption | exact bdrew _) hX.lt).cell 2, (hX.below (by first | assumption | exact bdrew _) hX.lt).cell 3, (hX.below (by first | assumption | exact bdrew _) hX.lt).cell 4⟩
        refine wpAnyH_take (i := 0) (v := ?b6_v0) rfl (by kernel_rfl) (by kernel_rfl) (by kernel_rfl) (fun _ _ _ h => h) (Or.inl ⟨by kernel_rfl, ?b6_hy0⟩) (by assumption) ?b6_rest0
        case b6_hy0 => (intro w hSw; (try dsimp only at hSw); go_simp; try (with_reducible rfl))
        try simp only [Act.put, lay1, lay2, lay3, lay4, lay5, lay6]
        refine wpAnyH_ready (rs := [1]) (by kernel_rfl) (by simp) ?_
        refine AllReadyH.cons rfl (fun K hK => ?_) AllReadyH.nil
        go_simp
        refine (hR _ _ (hbk.below (bdrew _))).mono ?_
        rintro e u1 ⟨rfl, d1_⟩
        have d1_ := bstep (bdrew V1) d1_
        go_wp2_with fail
        refine hK.out _ _ ?_ (fun hHeld => ?_)
        · exact ⟨(hY.below (by first | assumption | exact bdrew _) hY.lt).cell 0, (hY.below (by first | assumption | exact bdrew _) hY.lt).cell 1, (hY.below (by first | assumption | exact bdrew _) hY.lt).cell 2, (hY.below (by first | assumption | exact bdrew _) hY.lt).cell 3, (hX.below (by first | assumption | exact bdrew _) hX.lt).cell 0, (hX.below (by first | assumption | exact bdrew _) hX.lt).cell 1, (hX.below (by first | assumption | exact bdrew _) hX.lt).cell 2, (hX.below (by first | assumption | exact bdrew _) hX.lt).cell 3, (hX.below (by first | assumption | exact bdrew _) hX.lt).cell 4⟩
        clear hK K
        try simp only [Act.put, lay1, lay2, lay3, lay4, lay5, lay6]
        refine wpAnyH_take (i := 2) (v := ?b6_v2) rfl (by kernel_rfl) (by kernel_rfl) (by kernel_rfl) (fun _ _ _ h => h) (Or.inl ⟨by kernel_rfl, ?b6_hy2⟩) (by assumption) ?b6_rest2
        case b6_hy2 => (intro w hSw; (try dsimp only at hSw); go_simp; try (with_reducible rfl))
        try simp only [Act.put, lay1, lay2, lay3, lay4, lay5, lay6]
        refine wpAnyH_take (i := 3) (v := ?b6_v3) rfl (by kernel_rfl) (by kernel_rfl) (by kernel_rfl) (fun _ _ _ h => h) (Or.inl ⟨by kernel_rfl, ?b6_hy3⟩) (by assumption) ?b6_rest3
        case b6_hy3 => (intro w hSw; (try dsimp only at hSw); go_simp; try (with_reducible rfl))
        try simp only [Act.put, lay1, lay2, lay3, lay4, lay5, lay6]
        refine wpAnyH_take (i := 4) (v := undef) rfl (by kernel_rfl) (by kernel_rfl) (by kernel_rfl) (fun _ _ _ h => h) (Or.inr ⟨by kernel_rfl, rfl⟩) (by assumption) ?_
        try simp only [Act.put, lay1, lay2, lay3, lay4, lay5, lay6]
        refine wpAnyH_take (i := 5) (v := undef) rfl (by kernel_rfl) (by kernel_rfl) (by kernel_rfl) (fun _ _ _ h => h) (Or.inr ⟨by kernel_rfl, rfl⟩) (by assumption) ?_
        try simp only [Act.put, lay1, lay2, lay3, lay4, lay5, lay6]
        refine wpAnyH_take (i := 6) (v := undef) rfl (by kernel_rfl) (by kernel_rfl) (by kernel_rfl) (fun _ _ _ h => h) (Or.inr ⟨by kernel_rfl, rfl⟩) (by assumption) ?_
        try simp only [Act.put, lay1, lay2, lay3, lay4, lay5, lay6]
        refine wpAnyH_take (i := 7) (v := undef) rfl (by kernel_rfl) (by kernel_rfl) (by kernel_rfl) (fun _ _ _ h => h) (Or.inr ⟨by kernel_rfl, rfl⟩) (by assumption) ?_
        try simp only [Act.put, lay1, lay2, lay3, lay4, lay5, lay6]
        refine wpAnyH_take (i := 8) (v := undef) rfl (by kernel_rfl) (by kernel_rfl) (by kernel_rfl) (fun _ _ _ h => h) (Or.inr ⟨by kernel_rfl, rfl⟩) (by assumption) ?_
        try simp only [Act.put, lay1, lay2, lay3, lay4, lay5, lay6]
        refine wpAnyH_take (i := 9) (v := undef) rfl (by kernel_rfl) (by kernel_rfl) (by kernel_rfl) (fun _ _ _ h => h) (Or.inr ⟨by kernel_rfl, rfl⟩) (by assumption) ?_
        try simp only [Act.put, lay1, lay2, lay3, lay4, lay5, lay6]
        refine wpAnyH_take (i := 10) (v := undef) rfl (by kernel_rfl) (by kernel_rfl) (by kernel_rfl) (fun _ _ _ h => h) (Or.inr ⟨by kernel_rfl, rfl⟩) (by assumption) ?_
        try simp only [Act.put, lay1, lay2, lay3, lay4, lay5, lay6]
        refine wpAnyH_take (i := 11) (v := undef) rfl (by kernel_rfl) (by kernel_rfl) (by kernel_rfl) (fun _ _ _ h => h) (Or.inr ⟨by kernel_rfl, rfl⟩) (by assumption) ?_
        try simp only [Act.put, lay1, lay2, lay3, lay4, lay5, lay6]
        refine wpAnyH_take (i := 12) (v := undef) rfl (by kernel_rfl) (by kernel_rfl) (by kernel_rfl) (fun _ _ _ h => h) (Or.inr ⟨by kernel_rfl, rfl⟩) (by assumption) ?_
        try simp only [Act.put, lay1, lay2, lay3, lay4, lay5, lay6]
        refine wpAnyH_take (i := 13) (v := undef) rfl (by kernel_rfl) (by kernel_rfl) (by kernel_rfl) (fun _ _ _ h => h) (Or.inr ⟨by kernel_rfl, rfl⟩) (by assumption) ?_
        try simp only [Act.put, lay1, lay2, lay3, lay4, lay5, lay6]
        refine wpAnyH_take (i := 14) (v := undef) rfl (by kernel_rfl) (by kernel_rfl) (by kernel_rfl) (fun _ _ _ h => h) (Or.inr ⟨by kernel_rfl, rfl⟩) (by assumption) ?_
        try simp only [Act.put, lay1, lay2, lay3, lay4, lay5, lay6]
        refine wpAnyH_take (i := 15) (v := undef) rfl (by kernel_rfl) (by kernel_rfl) (by kernel_rfl) (fun _ _ _ h => h) (Or.inr ⟨by kernel_rfl, rfl⟩) (by assumption) ?_
        try simp only [Act.put, lay1, lay2, lay3, lay4, lay5, lay6]
        refine wpAnyH_take (i := 16) (v := undef) rfl (by kernel_rfl) (by kernel_rfl) (by kernel_rfl) (fun _ _ _ h => h) (Or.inr ⟨by kernel_rfl, rfl⟩) (by assumption) ?_
        try simp only [Act.put, lay1, lay2, lay3, lay4, lay5, lay6]
        refine wpAnyH_take (i := 17) (v := undef) rfl (by kernel_rfl) (by kernel_rfl) (by kernel_rfl) (fun _ _ _ h => h) (Or.inr ⟨by kernel_rfl, rfl⟩) (by assumption) ?_
        try simp only [Act.put, lay1, lay2, lay3, lay4, lay5, lay6]
        try dsimp only
        try simp only [Act.put, lay1, lay2, lay3, lay4, lay5, lay6]
        refine wpAnyH_take (i := 18) (v := undef) rfl (by kernel_rfl) (by kernel_rfl) (by kernel_rfl) (fun _ _ _ h => h) (Or.inr ⟨by kernel_rfl, rfl⟩) (by assumption) ?_
        try simp only [Act.put, lay1, lay2, lay3, lay4, lay5, lay6]
        try dsimp only
        try simp only [Act.put, lay1, lay2, lay3, lay4, lay5, lay6]
        refine wpAnyH_take (i := 19) (v := ?b6_v19) rfl (by kernel_rfl) (by kernel_rfl) (by kernel_rfl) (fun _ _ _ h => h) (Or.inl ⟨by kernel_rfl, ?b6_hy19⟩) (by assumption) ?b6_rest19
        case b6_hy19 => (intro w hSw; (try dsimp only at hSw); go_simp; try (with_reducible rfl))
        try simp only [Act.put, lay1, lay2, lay3, lay4, lay5, lay6]
        try dsimp only
        try simp only [Act.put, lay1, lay2, lay3, lay4, lay5, lay6]
        refine wpAnyH_done (by kernel_rfl) ?_ _
        refine NoPanic.normal ?_
        replace hx := hx.below d1_
        replace hX := hX.below d1_ hX.lt
        replace hbk := hbk.below d1_
        replace hi1 := hi1.below d1_
        replace hY := hY.below d1_ hY.lt
        replace hB := hB.trans (d1_.mono hB.size)
        obtain ⟨c6_hX_0, c6_hX_1, c6_hX_2, c6_hX_3, c6_hX_4, c6_hX_5⟩ := hX.cells6
        obtain ⟨c6_hY_0, c6_hY_1, c6_hY_2, c6_hY_3⟩ := hY.quad
        go_wp2
        go_ret
        exact ⟨congrArg (fun b => Ending.returned (Value.bool b)) HRES.out.symm, hB⟩
      · rw [hbr] at hR
        by_cases hle : ln = min (Z : Int) d
        · have h2 : (ln != min (Z : Int) d) = false := by rw [hle]; simp
          have h2' : decide (ln = min (Z : Int) d) = true := decide_eq_true hle
          have HK2 := Lib.hid (show okTo k Z m o N bs (j + 1) = decide (k1 = if staysB m o N (if k1 = 4 then greatW wd else sc) = true then 4 else k) by rw [HS.out, HOK.out, hbr, h2']; simp)
          clear hle
          refine wp_region_noPanic ?_
          refine wp_region_held_drew (S := fun w' => w'.cell? ⟨X1, 0, none⟩ = some (.int .i64 k1) ∧ w'.cell? ⟨X1, 1, none⟩ = some (.int .i64 sc) ∧ w'.cell? ⟨X1, 2, none⟩ = some (.slice P1 cs.length Q1) ∧ w'.cell? ⟨X1, 3, none⟩ = some (.slice P2 wd.length Q2) ∧ w'.cell? ⟨g, 0, none⟩ = some (.int .i64 k) ∧ w'.cell? ⟨g, 1, none⟩ = some (.int .i64 Z) ∧ w'.cell? ⟨g, 2, none⟩ = some (.int .i64 m) ∧ w'.cell? ⟨g, 3, none⟩ = some (.int .i64 o) ∧ w'.cell? ⟨g, 4, none⟩ = some (.int .i64 N)) (by kernel_rfl) ?_ (fun hHeld => ?_)
          · exact ⟨(hY.below (by first | assumption | exact bdrew _) hY.lt).cell 0, (hY.below (by first | assumption | exact bdrew _) hY.lt).cell 1, (hY.below (by first | assumption | exact bdrew _) hY.lt).cell 2, (hY.below (by first | assumption | exact bdrew _) hY.lt).cell 3, (hX.below (by first | assumption | exact bdrew _) hX.lt).cell 0, (hX.below (by first | assumption | exact bdrew _) hX.lt).cell 1, (hX.below (by first | assumption | exact bdrew _) hX.lt).cell 2, (hX.below (by first | assumption | exact bdrew _) hX.lt).cell 3, (hX.below (by first | assumption | exact bdrew _) hX.lt).cell 4⟩
          refine wpAnyH_take (i := 0) (v := ?b7_v0) rfl (by kernel_rfl) (by kernel_rfl) (by kernel_rfl) (fun _ _ _ h => h) (Or.inl ⟨by kernel_rfl, ?b7_hy0⟩) (by assumption) ?b7_rest0
          case b7_hy0 => (intro w hSw; (try dsimp only at hSw); go_simp; try (with_reducible rfl))
          try simp only [Act.put, lay1, lay2, lay3, lay4, lay5, lay6]
          refine wpAnyH_ready (rs := [1]) (by kernel_rfl) (by simp) ?_
          refine AllReadyH.cons rfl (fun K hK => ?_) AllReadyH.nil
          go_simp
          refine (hR _ _ (hbk.below (bdrew _))).mono ?_
          rintro e u1 ⟨rfl, d1_⟩
          have d1_ := bstep (bdrew V1) d1_
          go_wp2_with fail
          refine hK.out _ _ ?_ (fun hHeld => ?_)
          · exact ⟨(hY.below (by first | assumption | exact bdrew _) hY.lt).cell 0, (hY.below (by first | assumption | exact bdrew _) hY.lt).cell 1, (hY.below (by first | assumption | exact bdrew _) hY.lt).cell 2, (hY.below (by first | assumption | exact bdrew _) hY.lt).cell 3, (hX.below (by first | assumption | exact bdrew _) hX.lt).cell 0, (hX.below (by first | assumption | exact bdrew _) hX.lt).cell 1, (hX.below (by first | assumption | exact bdrew _) hX.lt).cell 2, (hX.below (by first | assumption | exact bdrew _) hX.lt).cell 3, (hX.below (by first | assumption | exact bdrew _) hX.lt).cell 4⟩
          clear hK K
          try simp only [Act.put, lay1, lay2, lay3, lay4, lay5, lay6]
          refine wpAnyH_take (i := 2) (v := ?b7_v2) rfl (by kernel_rfl) (by kernel_rfl) (by kernel_rfl) (fun _ _ _ h => h) (Or.inl ⟨by kernel_rfl, ?b7_hy2⟩) (by assumption) ?b7_rest2
          case b7_hy2 => (intro w hSw; (try dsimp only at hSw); go_simp; try (with_reducible rfl))
          try simp only [Act.put, lay1, lay2, lay3, lay4, lay5, lay6]
          refine wpAnyH_take (i := 3) (v := ?b7_v3) rfl (by kernel_rfl) (by kernel_rfl) (by kernel_rfl) (fun _ _ _ h => h) (Or.inl ⟨by kernel_rfl, ?b7_hy3⟩) (by assumption) ?b7_rest3
          case b7_hy3 => (intro w hSw; (try dsimp only at hSw); go_simp; try (with_reducible rfl))
          try simp only [Act.put, lay1, lay2, lay3, lay4, lay5, lay6]
          refine wpAnyH_take (i := 4) (v := ?b7_v4) rfl (by kernel_rfl) (by kernel_rfl) (by kernel_rfl) (fun _ _ _ h => h) (Or.inl ⟨by kernel_rfl, ?b7_hy4⟩) (by assumption) ?b7_rest4
          case b7_hy4 => (intro w hSw; (try dsimp only at hSw); go_simp; try (with_reducible rfl))
          try simp only [Act.put, lay1, lay2, lay3, lay4, lay5, lay6]
          refine wpAnyH_take (i := 6) (v := ?b7_v6) rfl (by kernel_rfl) (by kernel_rfl) (by kernel_rfl) (fun _ _ _ h => h) (Or.inl ⟨by kernel_rfl, ?b7_hy6⟩) (by assumption) ?b7_rest6
          case b7_hy6 => (intro w hSw; (try dsimp only at hSw); go_simp; try (with_reducible rfl))
          try simp only [Act.put, lay1, lay2, lay3, lay4, lay5, lay6]
          refine wpAnyH_take (i := 7) (v := ?b7_v7) rfl (by kernel_rfl) (by kernel_rfl) (by kernel_rfl) (fun _ _ _ h => h) (Or.inl ⟨by kernel_rfl, ?b7_hy7⟩) (by assumption) ?b7_rest7
          case b7_hy7 => (intro w hSw; (try dsimp only at hSw); go_simp; try (with_reducible rfl))
          try simp only [Act.put, lay1, lay2, lay3, lay4, lay5, lay6]
          refine wpAnyH_take (i := 8) (v := ?b7_v8) rfl (by kernel_rfl) (by kernel_rfl) (by kernel_rfl) (fun _ _ _ h => h) (Or.inl ⟨by kernel_rfl, ?b7_hy8⟩) (by assumption) ?b7_rest8
          case b7_hy8 => (intro w hSw; (try dsimp only at hSw); go_simp; try (with_reducible rfl))
          try simp only [Act.put, lay1, lay2, lay3, lay4, lay5, lay6]
          refine wpAnyH_take (i := 9) (v := ?b7_v9) rfl (by kernel_rfl) (by kernel_rfl) (by kernel_rfl) (fun _ _ _ h => h) (Or.inl ⟨by kernel_rfl, ?b7_hy9⟩) (by assumption) ?b7_rest9
          case b7_hy9 => (intro w hSw; (try dsimp only at hSw); go_simp; try (with_reducible rfl))
          try simp only [Act.put, lay1, lay2, lay3, lay4, lay5, lay6]
          refine wpAnyH_take (i := 10) (v := ?b7_v10) rfl (by kernel_rfl) (by kernel_rfl) (by kernel_rfl) (fun _ _ _ h => h) (Or.inl ⟨by kernel_rfl, ?b7_hy10⟩) (by assumption) ?b7_rest10
          case b7_hy10 => (intro w hSw; (try dsimp only at hSw); go_simp; try (with_reducible rfl))
          try simp only [Act.put, lay1, lay2, lay3, lay4, lay5, lay6]
          refine wpAnyH_take (i := 11) (v := ?b7_v11) rfl (by kernel_rfl) (by kernel_rfl) (by kernel_rfl) (fun _ _ _ h => h) (Or.inl ⟨by kernel_rfl, ?b7_hy11⟩) (by assumption) ?b7_rest11
          case b7_hy11 => (intro w hSw; (try dsimp only at hSw); go_simp; try (with_reducible rfl))
          try simp only [Act.put, lay1, lay2, lay3, lay4, lay5, lay6]
          refine wpAnyH_take (i := 12) (v := ?b7_v12) rfl (by kernel_rfl) (by kernel_rfl) (by kernel_rfl) (fun _ _ _ h => h) (Or.inl ⟨by kernel_rfl, ?b7_hy12⟩) (by assumption) ?b7_rest12
          case b7_hy12 => (intro w hSw; (try dsimp only at hSw); go_simp; try (with_reducible rfl))
          try simp only [Act.put, lay1, lay2, lay3, lay4, lay5, lay6]
          refine wpAnyH_take (i := 13) (v := ?b7_v13) rfl (by kernel_rfl) (by kernel_rfl) (by kernel_rfl) (fun _ _ _ h => h) (Or.inl ⟨by kernel_rfl, ?b7_hy13⟩) (by assumption) ?b7_rest13
          case b7_hy13 => (intro w hSw; (try dsimp only at hSw); go_simp; try (with_reducible rfl))
          try simp only [Act.put, lay1, lay2, lay3, lay4, lay5, lay6]
          refine wpAnyH_take (i := 14) (v := ?b7_v14) rfl (by kernel_rfl) (by kernel_rfl) (by kernel_rfl) (fun _ _ _ h => h) (Or.inl ⟨by kernel_rfl, ?b7_hy14⟩) (by assumption) ?b7_rest14
          case b7_hy14 => (intro w hSw; (try dsimp only at hSw); go_simp; try (with_reducible rfl))
          try simp only [Act.put, lay1, lay2, lay3, lay4, lay5, lay6]
          refine wpAnyH_take (i := 15) (v := ?b7_v15) rfl (by kernel_rfl) (by kernel_rfl) (by kernel_rfl) (fun _ _ _ h => h) (Or.inl ⟨by kernel_rfl, ?b7_hy15⟩) (by assumption) ?b7_rest15
          case b7_hy15 => (intro w hSw; (try dsimp only at hSw); go_simp; try (with_reducible rfl))
          try simp only [Act.put, lay1, lay2, lay3, lay4, lay5, lay6]
          refine wpAnyH_take (i := 16) (v := ?b7_v16) rfl (by kernel_rfl) (by kernel_rfl) (by kernel_rfl) (fun _ _ _ h => h) (Or.inl ⟨by kernel_rfl, ?b7_hy16⟩) (by assumption) ?b7_rest16
          case b7_hy16 => (intro w hSw; (try dsimp only at hSw); go_simp; try (with_reducible rfl))
          try simp only [Act.put, lay1, lay2, lay3, lay4, lay5, lay6]
          refine wpAnyH_take (i := 17) (v := ?b7_v17) rfl (by kernel_rfl) (by kernel_rfl) (by kernel_rfl) (fun _ _ _ h => h) (Or.inl ⟨by kernel_rfl, ?b7_hy17⟩) (by assumption) ?b7_rest17
          case b7_hy17 => (intro w hSw; (try dsimp only at hSw); go_simp; try (with_reducible rfl))
          try simp only [Act.put, lay1, lay2, lay3, lay4, lay5, lay6]
          refine wpAnyH_ready (rs := [5]) (by kernel_rfl) (by simp) ?_
          refine AllReadyH.cons rfl (fun K hK => ?_) AllReadyH.nil
          go_simp
          refine (hLn _ _ (hbk.below d1_)).mono ?_
          rintro e u2 ⟨rfl, d2_⟩
          have d2_ := bstep d1_ d2_
          go_wp2_with fail
          refine hK.out _ _ ?_ (fun hHeld => ?_)
          · exact ⟨(hY.below (by first | assumption | exact bdrew _) hY.lt).cell 0, (hY.below (by first | assumption | exact bdrew _) hY.lt).cell 1, (hY.below (by first | assumption | exact bdrew _) hY.lt).cell 2, (hY.below (by first | assumption | exact bdrew _) hY.lt).cell 3, (hX.below (by first | assumption | exact bdrew _) hX.lt).cell 0, (hX.below (by first | assumption | exact bdrew _) hX.lt).cell 1, (hX.below (by first | assumption | exact bdrew _) hX.lt).cell 2, (hX.below (by first | assumption | exact bdrew _) hX.lt).cell 3, (hX.below (by first | assumption | exact bdrew _) hX.lt).cell 4⟩
          clear hK K
          try simp only [Act.put, lay1, lay2, lay3, lay4, lay5, lay6]
          try dsimp only
          try simp only [Act.put, lay1, lay2, lay3, lay4, lay5, lay6]
          refine wpAnyH_take (i := 18) (v := ?b7_v18) rfl (by kernel_rfl) (by kernel_rfl) (by kernel_rfl) (fun _ _ _ h => h) (Or.inl ⟨by kernel_rfl, ?b7_hy18⟩) (by assumption) ?b7_rest18
          case b7_hy18 => (intro w hSw; (try dsimp only at hSw); go_simp; try (with_reducible rfl))
          try simp only [Act.put, lay1, lay2, lay3, lay4, lay5, lay6]
          try dsimp only
          try simp only [Act.put, lay1, lay2, lay3, lay4, lay5, lay6]
          refine wpAnyH_take (i := 19) (v := ?b7_v19) rfl (by kernel_rfl) (by kernel_rfl) (by kernel_rfl) (fun _ _ _ h => h) (Or.inl ⟨by kernel_rfl, ?b7_hy19⟩) (by assumption) ?b7_rest19
          case b7_hy19 => (intro w hSw; (try dsimp only at hSw); go_simp; try (with_reducible rfl))
          try simp only [Act.put, lay1, lay2, lay3, lay4, lay5, lay6]
          try dsimp only
          try simp only [Act.put, lay1, lay2, lay3, lay4, lay5, lay6]
          refine wpAnyH_done (by kernel_rfl) ?_ _
          refine NoPanic.normal ?_
          replace hx := hx.below d2_
          replace hX := hX.below d2_ hX.lt
          replace hbk := hbk.below d2_
          replace hi1 := hi1.below d2_
          replace hY := hY.below d2_ hY.lt
          replace hB := hB.trans (d2_.mono hB.size)
          obtain ⟨c6_hX_0, c6_hX_1, c6_hX_2, c6_hX_3, c6_hX_4, c6_hX_5⟩ := hX.cells6
          obtain ⟨c6_hY_0, c6_hY_1, c6_hY_2, c6_hY_3⟩ := hY.quad
          replace hBr := bstep hBr d2_
          clear c6_hX_0 c6_hX_1 c6_hX_2 c6_hX_3 c6_hX_4 c6_hX_5 c6_hY_0 c6_hY_1 c6_hY_2 c6_hY_3
          obtain ⟨c7_hX_0, c7_hX_1, c7_hX_2, c7_hX_3, c7_hX_4, c7_hX_5⟩ := hX.cells6
          obtain ⟨c7_hY_0, c7_hY_1, c7_hY_2, c7_hY_3⟩ := hY.quad
          by_cases hk4 : k1 = 4
          · subst hk4
            have hgw := greatW_eq hwi (blkR_wide hbr)
            have hG := fun w h => rgreat_any (.slice P2 wd.length Q2) wd w h (fun x hx => ⟨hwi x hx, blkR_wide hbr x hx⟩)
            have HK3 := Lib.hid (show okTo k Z m o N bs (j + 1) = staysB m o N (great wd) by
              rw [HK2.out, if_pos rfl, hgw]
              cases staysB m o N (great wd)
              · rw [if_neg (by decide)]; exact decide_eq_false (by omega)
              · rw [if_pos rfl]; rfl)
            have hSt := fun w => rwide14_any k Z m o N (great wd) w
            clear hgw hbr
            generalize staysB m o (N : Int) (great wd) = sb at *
            generalize great wd = gw at *
            go_upto_region 10 with fail
            rcases sb with _ | _
            · refine wp_region_noPanic ?_
              refine wp_region_held_drew (S := fun w' => w'.cell? ⟨X1, 0, none⟩ = some (.int .i64 4) ∧ w'.cell? ⟨X1, 1, none⟩ = some (.int .i64 sc) ∧ w'.cell? ⟨X1, 2, none⟩ = some (.slice P1 cs.length Q1) ∧ w'.cell? ⟨X1, 3, none⟩ = some (.slice P2 wd.length Q2) ∧ w'.cell? ⟨g, 0, none⟩ = some (.int .i64 k) ∧ w'.cell? ⟨g, 1, none⟩ = some (.int .i64 Z) ∧ w'.cell? ⟨g, 2, none⟩ = some (.int .i64 m) ∧ w'.cell? ⟨g, 3, none⟩ = some (.int .i64 o) ∧ w'.cell? ⟨g, 4, none⟩ = some (.int .i64 N)) (by kernel_rfl) ?_ (fun hHeld => ?_)
              · exact ⟨(hY.below (by first | assumption | exact bdrew _) hY.lt).cell 0, (hY.below (by first | assumption | exact bdrew _) hY.lt).cell 1, (hY.below (by first | assumption | exact bdrew _) hY.lt).cell 2, (hY.below (by first | assumption | exact bdrew _) hY.lt).cell 3, (hX.below (by first | assumption | exact bdrew _) hX.lt).cell 0, (hX.below (by first | assumption | exact bdrew _) hX.lt).cell 1, (hX.below (by first | assumption | exact bdrew _) hX.lt).cell 2, (hX.below (by first | assumption | exact bdrew _) hX.lt).cell 3, (hX.below (by first | assumption | exact bdrew _) hX.lt).cell 4⟩
              refine wpAnyH_take (i := 0) (v := ?b8_v0) rfl (by kernel_rfl) (by kernel_rfl) (by kernel_rfl) (fun _ _ _ h => h) (Or.inl ⟨by kernel_rfl, ?b8_hy0⟩) (by assumption) ?b8_rest0
              case b8_hy0 => (intro w hSw; (try dsimp only at hSw); go_simp; try (with_reducible rfl))
              try simp only [Act.put, lay1, lay2, lay3, lay4, lay5, lay6]
              refine wpAnyH_take (i := 1) (v := ?b8_v1) rfl (by kernel_rfl) (by kernel_rfl) (by kernel_rfl) (fun _ _ _ h => h) (Or.inl ⟨by kernel_rfl, ?b8_hy1⟩) (by assumption) ?b8_rest1
              case b8_hy1 => (intro w hSw; (try dsimp only at hSw); go_simp; try (with_reducible rfl))
              try simp only [Act.put, lay1, lay2, lay3, lay4, lay5, lay6]
              refine wpAnyH_take (i := 2) (v := ?b8_v2) rfl (by kernel_rfl) (by kernel_rfl) (by kernel_rfl) (fun _ _ _ h => h) (Or.inl ⟨by kernel_rfl, ?b8_hy2⟩) (by assumption) ?b8_rest2
              case b8_hy2 => (intro w hSw; (try dsimp only at hSw); go_simp; try (with_reducible rfl))
              try simp only [Act.put, lay1, lay2, lay3, lay4, lay5, lay6]
              refine wpAnyH_take (i := 3) (v := ?b8_v3) rfl (by kernel_rfl) (by kernel_rfl) (by kernel_rfl) (fun _ _ _ h => h) (Or.inl ⟨by kernel_rfl, ?b8_hy3⟩) (by assumption) ?b8_rest3
              case b8_hy3 => (intro w hSw; (try dsimp only at hSw); go_simp; try (with_reducible rfl))
              try simp only [Act.put, lay1, lay2, lay3, lay4, lay5, lay6]
              refine wpAnyH_take (i := 4) (v := ?b8_v4) rfl (by kernel_rfl) (by kernel_rfl) (by kernel_rfl) (fun _ _ _ h => h) (Or.inl ⟨by kernel_rfl, ?b8_hy4⟩) (by assumption) ?b8_rest4
              case b8_hy4 => (intro w hSw; (try dsimp only at hSw); go_simp; try (with_reducible rfl))
              try simp only [Act.put, lay1, lay2, lay3, lay4, lay5, lay6]
              refine wpAnyH_take (i := 5) (v := ?b8_v5) rfl (by kernel_rfl) (by kernel_rfl) (by kernel_rfl) (fun _ _ _ h => h) (Or.inl ⟨by kernel_rfl, ?b8_hy5⟩) (by assumption) ?b8_rest5
              case b8_hy5 => (intro w hSw; (try dsimp only at hSw); go_simp; try (with_reducible rfl))
              try simp only [Act.put, lay1, lay2, lay3, lay4, lay5, lay6]
              refine wpAnyH_ready (rs := [6]) (by kernel_rfl) (by simp) ?_
              refine AllReadyH.cons rfl (fun K hK => ?_) AllReadyH.nil
              go_simp
              refine (hG _ (hi1.below (bdrew _))).mono ?_
              rintro e u3 ⟨rfl, n3, hn3⟩
              have d3_ : Below u2.heap.size u2 u3 := by rw [hn3]; exact below_drewN (bdrew _) n3
              clear hn3
              go_wp2_with fail
              refine hK.out _ _ ?_ (fun hHeld => ?_)
              · exact ⟨(hY.below (by first | assumption | exact bdrew _) hY.lt).cell 0, (hY.below (by first | assumption | exact bdrew _) hY.lt).cell 1, (hY.below (by first | assumption | exact bdrew _) hY.lt).cell 2, (hY.below (by first | assumption | exact bdrew _) hY.lt).cell 3, (hX.below (by first | assumption | exact bdrew _) hX.lt).cell 0, (hX.below (by first | assumption | exact bdrew _) hX.lt).cell 1, (hX.below (by first | assumption | exact bdrew _) hX.lt).cell 2, (hX.below (by first | assumption | exact bdrew _) hX.lt).cell 3, (hX.below (by first | assumption | exact bdrew _) hX.lt).cell 4⟩
              clear hK K
              try simp only [Act.put, lay1, lay2, lay3, lay4, lay5, lay6]
              try dsimp only
              try simp only [Act.put, lay1, lay2, lay3, lay4, lay5, lay6]
              refine wpAnyH_ready (rs := [7]) (by kernel_rfl) (by simp) ?_
              refine AllReadyH.cons rfl (fun K hK => ?_) AllReadyH.nil
              go_simp
              refine (hSt _).mono ?_
              rintro e u4 ⟨rfl, d4_⟩
              have d4_ := bstep d3_ d4_
              go_wp2_with fail
              refine hK.out _ _ ?_ (fun hHeld => ?_)
              · exact ⟨(hY.below (by first | assumption | exact bdrew _) hY.lt).cell 0, (hY.below (by first | assumption | exact bdrew _) hY.lt).cell 1, (hY.below (by first | assumption | exact bdrew _) hY.lt).cell 2, (hY.below (by first | assumption | exact bdrew _) hY.lt).cell 3, (hX.below (by first | assumption | exact bdrew _) hX.lt).cell 0, (hX.below (by first | assumption | exact bdrew _) hX.lt).cell 1, (hX.below (by first | assumption | exact bdrew _) hX.lt).cell 2, (hX.below (by first | assumption | exact bdrew _) hX.lt).cell 3, (hX.below (by first | assumption | exact bdrew _) hX.lt).cell 4⟩
              clear hK K
              try simp only [Act.put, lay1, lay2, lay3, lay4, lay5, lay6]
              try dsimp only
              try simp only [Act.put, lay1, lay2, lay3, lay4, lay5, lay6]
              refine wpAnyH_take (i := 8) (v := ?b8_v8) rfl (by kernel_rfl) (by kernel_rfl) (by kernel_rfl) (fun _ _ _ h => h) (Or.inl ⟨by kernel_rfl, ?b8_hy8⟩) (by assumption) ?b8_rest8
              case b8_hy8 => (intro w hSw; (try dsimp only at hSw); go_simp; try (with_reducible rfl))
              try simp only [Act.put, lay1, lay2, lay3, lay4, lay5, lay6]
              try dsimp only
              try simp only [Act.put, lay1, lay2, lay3, lay4, lay5, lay6]
              refine wpAnyH_done (by kernel_rfl) ?_ _
              refine NoPanic.normal ?_
              replace hx := hx.below d4_
              replace hX := hX.below d4_ hX.lt
              replace hbk := hbk.below d4_
              replace hi1 := hi1.below d4_
              replace hY := hY.below d4_ hY.lt
              replace hB := hB.trans (d4_.mono hB.size)
              clear c7_hX_0 c7_hX_1 c7_hX_2 c7_hX_3 c7_hX_4 c7_hX_5 c7_hY_0 c7_hY_1 c7_hY_2 c7_hY_3
              obtain ⟨c8_hX_0, c8_hX_1, c8_hX_2, c8_hX_3, c8_hX_4, c8_hX_5⟩ := hX.cells6
              obtain ⟨c8_hY_0, c8_hY_1, c8_hY_2, c8_hY_3⟩ := hY.quad
              have HRES := Lib.hid (okTo_le HK3.out (show j + 1 ≤ bs.length by omega))
              go_wp2
              go_ret
              exact ⟨congrArg (fun b => Ending.returned (Value.bool b)) HRES.out.symm, hB⟩
            · refine wp_region_noPanic ?_
              refine wp_region_held_drew (S := fun w' => w'.cell? ⟨X1, 0, none⟩ = some (.int .i64 4) ∧ w'.cell? ⟨X1, 1, none⟩ = some (.int .i64 sc) ∧ w'.cell? ⟨X1, 2, none⟩ = some (.slice P1 cs.length Q1) ∧ w'.cell? ⟨X1, 3, none⟩ = some (.slice P2 wd.length Q2) ∧ w'.cell? ⟨g, 0, none⟩ = some (.int .i64 k) ∧ w'.cell? ⟨g, 1, none⟩ = some (.int .i64 Z) ∧ w'.cell? ⟨g, 2, none⟩ = some (.int .i64 m) ∧ w'.cell? ⟨g, 3, none⟩ = some (.int .i64 o) ∧ w'.cell? ⟨g, 4, none⟩ = some (.int .i64 N)) (by kernel_rfl) ?_ (fun hHeld => ?_)
              · exact ⟨(hY.below (by first | assumption | exact bdrew _) hY.lt).cell 0, (hY.below (by first | assumption | exact bdrew _) hY.lt).cell 1, (hY.below (by first | assumption | exact bdrew _) hY.lt).cell 2, (hY.below (by first | assumption | exact bdrew _) hY.lt).cell 3, (hX.below (by first | assumption | exact bdrew _) hX.lt).cell 0, (hX.below (by first | assumption | exact bdrew _) hX.lt).cell 1, (hX.below (by first | assumption | exact bdrew _) hX.lt).cell 2, (hX.below (by first | assumption | exact bdrew _) hX.lt).cell 3, (hX.below (by first | assumption | exact bdrew _) hX.lt).cell 4⟩
              refine wpAnyH_take (i := 0) (v := ?b9_v0) rfl (by kernel_rfl) (by kernel_rfl) (by kernel_rfl) (fun _ _ _ h => h) (Or.inl ⟨by kernel_rfl, ?b9_hy0⟩) (by assumption) ?b9_rest0
              case b9_hy0 => (intro w hSw; (try dsimp only at hSw); go_simp; try (with_reducible rfl))
              try simp only [Act.put, lay1, lay2, lay3, lay4, lay5, lay6]
              refine wpAnyH_take (i := 1) (v := ?b9_v1) rfl (by kernel_rfl) (by kernel_rfl) (by kernel_rfl) (fun _ _ _ h => h) (Or.inl ⟨by kernel_rfl, ?b9_hy1⟩) (by assumption) ?b9_rest1
              case b9_hy1 => (intro w hSw; (try dsimp only at hSw); go_simp; try (with_reducible rfl))
              try simp only [Act.put, lay1, lay2, lay3, lay4, lay5, lay6]
              refine wpAnyH_take (i := 2) (v := ?b9_v2) rfl (by kernel_rfl) (by kernel_rfl) (by kernel_rfl) (fun _ _ _ h => h) (Or.inl ⟨by kernel_rfl, ?b9_hy2⟩) (by assumption) ?b9_rest2
              case b9_hy2 => (intro w hSw; (try dsimp only at hSw); go_simp; try (with_reducible rfl))
              try simp only [Act.put, lay1, lay2, lay3, lay4, lay5, lay6]
              refine wpAnyH_take (i := 3) (v := ?b9_v3) rfl (by kernel_rfl) (by kernel_rfl) (by kernel_rfl) (fun _ _ _ h => h) (Or.inl ⟨by kernel_rfl, ?b9_hy3⟩) (by assumption) ?b9_rest3
              case b9_hy3 => (intro w hSw; (try dsimp only at hSw); go_simp; try (with_reducible rfl))
              try simp only [Act.put, lay1, lay2, lay3, lay4, lay5, lay6]
              refine wpAnyH_take (i := 4) (v := ?b9_v4) rfl (by kernel_rfl) (by kernel_rfl) (by kernel_rfl) (fun _ _ _ h => h) (Or.inl ⟨by kernel_rfl, ?b9_hy4⟩) (by assumption) ?b9_rest4
              case b9_hy4 => (intro w hSw; (try dsimp only at hSw); go_simp; try (with_reducible rfl))
              try simp only [Act.put, lay1, lay2, lay3, lay4, lay5, lay6]
              refine wpAnyH_take (i := 5) (v := ?b9_v5) rfl (by kernel_rfl) (by kernel_rfl) (by kernel_rfl) (fun _ _ _ h => h) (Or.inl ⟨by kernel_rfl, ?b9_hy5⟩) (by assumption) ?b9_rest5
              case b9_hy5 => (intro w hSw; (try dsimp only at hSw); go_simp; try (with_reducible rfl))
              try simp only [Act.put, lay1, lay2, lay3, lay4, lay5, lay6]
              refine wpAnyH_ready (rs := [6]) (by kernel_rfl) (by simp) ?_
              refine AllReadyH.cons rfl (fun K hK => ?_) AllReadyH.nil
              go_simp
              refine (hG _ (hi1.below (bdrew _))).mono ?_
              rintro e u3 ⟨rfl, n3, hn3⟩
              have d3_ : Below u2.heap.size u2 u3 := by rw [hn3]; exact below_drewN (bdrew _) n3
              clear hn3
              go_wp2_with fail
              refine hK.out _ _ ?_ (fun hHeld => ?_)
              · exact ⟨(hY.below (by first | assumption | exact bdrew _) hY.lt).cell 0, (hY.below (by first | assumption | exact bdrew _) hY.lt).cell 1, (hY.below (by first | assumption | exact bdrew _) hY.lt).cell 2, (hY.below (by first | assumption | exact bdrew _) hY.lt).cell 3, (hX.below (by first | assumption | exact bdrew _) hX.lt).cell 0, (hX.below (by first | assumption | exact bdrew _) hX.lt).cell 1, (hX.below (by first | assumption | exact bdrew _) hX.lt).cell 2, (hX.below (by first | assumption | exact bdrew _) hX.lt).cell 3, (hX.below (by first | assumption | exact bdrew _) hX.lt).cell 4⟩
              clear hK K
              try simp only [Act.put, lay1, lay2, lay3, lay4, lay5, lay6]
              try dsimp only
              try simp only [Act.put, lay1, lay2, lay3, lay4, lay5, lay6]
              refine wpAnyH_ready (rs := [7]) (by kernel_rfl) (by simp) ?_
              refine AllReadyH.cons rfl (fun K hK => ?_) AllReadyH.nil
              go_simp
              refine (hSt _).mono ?_
              rintro e u4 ⟨rfl, d4_⟩
              have d4_ := bstep d3_ d4_
              go_wp2_with fail
              refine hK.out _ _ ?_ (fun hHeld => ?_)
              · exact ⟨(hY.below (by first | assumption | exact bdrew _) hY.lt).cell 0, (hY.below (by first | assumption | exact bdrew _) hY.lt).cell 1, (hY.below (by first | assumption | exact bdrew _) hY.lt).cell 2, (hY.below (by first | assumption | exact bdrew _) hY.lt).cell 3, (hX.below (by first | assumption | exact bdrew _) hX.lt).cell 0, (hX.below (by first | assumption | exact bdrew _) hX.lt).cell 1, (hX.below (by first | assumption | exact bdrew _) hX.lt).cell 2, (hX.below (by first | assumption | exact bdrew _) hX.lt).cell 3, (hX.below (by first | assumption | exact bdrew _) hX.lt).cell 4⟩
              clear hK K
              try simp only [Act.put, lay1, lay2, lay3, lay4, lay5, lay6]
              try dsimp only
              try simp only [Act.put, lay1, lay2, lay3, lay4, lay5, lay6]
              refine wpAnyH_take (i := 8) (v := ?b9_v8) rfl (by kernel_rfl) (by kernel_rfl) (by kernel_rfl) (fun _ _ _ h => h) (Or.inl ⟨by kernel_rfl, ?b9_hy8⟩) (by assumption) ?b9_rest8
              case b9_hy8 => (intro w hSw; (try dsimp only at hSw); go_simp; try (with_reducible rfl))
              try simp only [Act.put, lay1, lay2, lay3, lay4, lay5, lay6]
              try dsimp only
              try simp only [Act.put, lay1, lay2, lay3, lay4, lay5, lay6]
              refine wpAnyH_done (by kernel_rfl) ?_ _
              refine NoPanic.normal ?_
              replace hx := hx.below d4_
              replace hX := hX.below d4_ hX.lt
              replace hbk := hbk.below d4_
              replace hi1 := hi1.below d4_
              replace hY := hY.below d4_ hY.lt
              replace hB := hB.trans (d4_.mono hB.size)
              clear c7_hX_0 c7_hX_1 c7_hX_2 c7_hX_3 c7_hX_4 c7_hX_5 c7_hY_0 c7_hY_1 c7_hY_2 c7_hY_3
              obtain ⟨c8_hX_0, c8_hX_1, c8_hX_2, c8_hX_3, c8_hX_4, c8_hX_5⟩ := hX.cells6
              obtain ⟨c8_hY_0, c8_hY_1, c8_hY_2, c8_hY_3⟩ := hY.quad
              go_wp2
              exact ⟨⟨j + 1, by go_num, by omega, Lib.hid HK3.out, bl.trans ((bstep hBr d4_).mono bl.size)⟩, by simp [intOf]; omega⟩
          · have hk5 : (k1 == 4) = false := by rw [beq_eq_false_iff_ne]; exact hk4
            have hk6 : decide (k1 = 4) = false := decide_eq_false hk4
            rw [if_neg hk4] at HK2
            have hSt := fun w => rwide14_any k Z m o N sc w
            clear hbr
            by_cases hke : k1 = k
            · have h1 : (k1 != k) = false := by rw [hke]; simp
              have h1' : decide (k1 = k) = true := decide_eq_true hke
              have HK3 := Lib.hid (show okTo k Z m o N bs (j + 1) = !staysB m o N sc by
                rw [HK2.out]
                cases staysB m o N sc
                · rw [if_neg (by decide)]; exact h1'
                · rw [if_pos rfl]; exact hk6)
              clear hke
              generalize staysB m o (N : Int) sc = sb at *
              go_wp2_with fail
              refine (hSt _).mono ?_
              rintro e w1 ⟨rfl, b1⟩
              replace hx := hx.below b1
              replace hX := hX.below b1 hX.lt
              replace hbk := hbk.below b1
              replace hi1 := hi1.below b1
              replace hY := hY.below b1 hY.lt
              replace hB := hB.trans (b1.mono hB.size)
              clear c7_hX_0 c7_hX_1 c7_hX_2 c7_hX_3 c7_hX_4 c7_hX_5 c7_hY_0 c7_hY_1 c7_hY_2 c7_hY_3
              obtain ⟨c8_hX_0, c8_hX_1, c8_hX_2, c8_hX_3, c8_hX_4, c8_hX_5⟩ := hX.cells6
              obtain ⟨c8_hY_0, c8_hY_1, c8_hY_2, c8_hY_3⟩ := hY.quad
              replace hBr := bstep hBr b1
              rcases sb with _ | _
              · go_wp2
                exact ⟨⟨j + 1, by go_num, by omega, Lib.hid HK3.out, bl.trans (hBr.mono bl.size)⟩, by simp [intOf]; omega⟩
              · have HRES := Lib.hid (okTo_le HK3.out (show j + 1 ≤ bs.length by omega))
                go_wp2
                go_ret
                exact ⟨congrArg (fun b => Ending.returned (Value.bool b)) HRES.out.symm, hB⟩
            · have h1 : (k1 != k) = true := by rw [bne_iff_ne]; exact hke
              have h1' : decide (k1 = k) = false := decide_eq_false hke
              have hres : okTo k Z m o N bs (j + 1) = false := by
                rw [HK2.out]
                cases staysB m o N sc
                · rw [if_neg (by decide)]; exact h1'
                · rw [if_pos rfl]; exact hk6
              have HRES := Lib.hid (okTo_le hres (show j + 1 ≤ bs.length by omega))
              clear hres hke
              go_wp2
              go_ret
              exact ⟨congrArg (fun b => Ending.returned (Value.bool b)) HRES.out.symm, hB⟩
        · have h2 : (ln != min (Z : Int) d) = true := by rw [bne_iff_ne]; exact hle
          have h2' : decide (ln = min (Z : Int) d) = false := decide_eq_false hle
          have hres : okTo k Z m o N bs (j + 1) = false := by rw [HS.out, HOK.out, hbr, h2']; simp
          have HRES := Lib.hid (okTo_le hres (show j + 1 ≤ bs.length by omega))
          clear hres hle hbr
          refine wp_region_noPanic ?_
          refine wp_region_held_drew (S := fun w' => w'.cell? ⟨X1, 0, none⟩ = some (.int .i64 k1) ∧ w'.cell? ⟨X1, 1, none⟩ = some (.int .i64 sc) ∧ w'.cell? ⟨X1, 2, none⟩ = some (.slice P1 cs.length Q1) ∧ w'.cell? ⟨X1, 3, none⟩ = some (.slice P2 wd.length Q2) ∧ w'.cell? ⟨g, 0, none⟩ = some (.int .i64 k) ∧ w'.cell? ⟨g, 1, none⟩ = some (.int .i64 Z) ∧ w'.cell? ⟨g, 2, none⟩ = some (.int .i64 m) ∧ w'.cell? ⟨g, 3, none⟩ = some (.int .i64 o) ∧ w'.cell? ⟨g, 4, none⟩ = some (.int .i64 N)) (by kernel_rfl) ?_ (fun hHeld => ?_)
          · exact ⟨(hY.below (by first | assumption | exact bdrew _) hY.lt).cell 0, (hY.below (by first | assumption | exact bdrew _) hY.lt).cell 1, (hY.below (by first | assumption | exact bdrew _) hY.lt).cell 2, (hY.below (by first | assumption | exact bdrew _) hY.lt).cell 3, (hX.below (by first | assumption | exact bdrew _) hX.lt).cell 0, (hX.below (by first | assumption | exact bdrew _) hX.lt).cell 1, (hX.below (by first | assumption | exact bdrew _) hX.lt).cell 2, (hX.below (by first | assumption | exact bdrew _) hX.lt).cell 3, (hX.below (by first | assumption | exact bdrew _) hX.lt).cell 4⟩
          refine wpAnyH_take (i := 0) (v := ?b10_v0) rfl (by kernel_rfl) (by kernel_rfl) (by kernel_rfl) (fun _ _ _ h => h) (Or.inl ⟨by kernel_rfl, ?b10_hy0⟩) (by assumption) ?b10_rest0
          case b10_hy0 => (intro w hSw; (try dsimp only at hSw); go_simp; try (with_reducible rfl))
          try simp only [Act.put, lay1, lay2, lay3, lay4, lay5, lay6]
          refine wpAnyH_ready (rs := [1]) (by kernel_rfl) (by simp) ?_
          refine AllReadyH.cons rfl (fun K hK => ?_) AllReadyH.nil
          go_simp
          refine (hR _ _ (hbk.below (bdrew _))).mono ?_
          rintro e u1 ⟨rfl, d1_⟩
          have d1_ := bstep (bdrew V1) d1_
          go_wp2_with fail
          refine hK.out _ _ ?_ (fun hHeld => ?_)
          · exact ⟨(hY.below (by first | assumption | exact bdrew _) hY.lt).cell 0, (hY.below (by first | assumption | exact bdrew _) hY.lt).cell 1, (hY.below (by first | assumption | exact bdrew _) hY.lt).cell 2, (hY.below (by first | assumption | exact bdrew _) hY.lt).cell 3, (hX.below (by first | assumption | exact bdrew _) hX.lt).cell 0, (hX.below (by first | assumption | exact bdrew _) hX.lt).cell 1, (hX.below (by first | assumption | exact bdrew _) hX.lt).cell 2, (hX.below (by first | assumption | exact bdrew _) hX.lt).cell 3, (hX.below (by first | assumption | exact bdrew _) hX.lt).cell 4⟩
          clear hK K
          try simp only [Act.put, lay1, lay2, lay3, lay4, lay5, lay6]
          refine wpAnyH_take (i := 2) (v := ?b10_v2) rfl (by kernel_rfl) (by kernel_rfl) (by kernel_rfl) (fun _ _ _ h => h) (Or.inl ⟨by kernel_rfl, ?b10_hy2⟩) (by assumption) ?b10_rest2
          case b10_hy2 => (intro w hSw; (try dsimp only at hSw); go_simp; try (with_reducible rfl))
          try simp only [Act.put, lay1, lay2, lay3, lay4, lay5, lay6]
          refine wpAnyH_take (i := 3) (v := ?b10_v3) rfl (by kernel_rfl) (by kernel_rfl) (by kernel_rfl) (fun _ _ _ h => h) (Or.inl ⟨by kernel_rfl, ?b10_hy3⟩) (by assumption) ?b10_rest3
          case b10_hy3 => (intro w hSw; (try dsimp only at hSw); go_simp; try (with_reducible rfl))
          try simp only [Act.put, lay1, lay2, lay3, lay4, lay5, lay6]
          refine wpAnyH_take (i := 4) (v := ?b10_v4) rfl (by kernel_rfl) (by kernel_rfl) (by kernel_rfl) (fun _ _ _ h => h) (Or.inl ⟨by kernel_rfl, ?b10_hy4⟩) (by assumption) ?b10_rest4
          case b10_hy4 => (intro w hSw; (try dsimp only at hSw); go_simp; try (with_reducible rfl))
          try simp only [Act.put, lay1, lay2, lay3, lay4, lay5, lay6]
          refine wpAnyH_take (i := 6) (v := ?b10_v6) rfl (by kernel_rfl) (by kernel_rfl) (by kernel_rfl) (fun _ _ _ h => h) (Or.inl ⟨by kernel_rfl, ?b10_hy6⟩) (by assumption) ?b10_rest6
          case b10_hy6 => (intro w hSw; (try dsimp only at hSw); go_simp; try (with_reducible rfl))
          try simp only [Act.put, lay1, lay2, lay3, lay4, lay5, lay6]
          refine wpAnyH_take (i := 7) (v := ?b10_v7) rfl (by kernel_rfl) (by kernel_rfl) (by kernel_rfl) (fun _ _ _ h => h) (Or.inl ⟨by kernel_rfl, ?b10_hy7⟩) (by assumption) ?b10_rest7
          case b10_hy7 => (intro w hSw; (try dsimp only at hSw); go_simp; try (with_reducible rfl))
          try simp only [Act.put, lay1, lay2, lay3, lay4, lay5, lay6]
          refine wpAnyH_take (i := 8) (v := ?b10_v8) rfl (by kernel_rfl) (by kernel_rfl) (by kernel_rfl) (fun _ _ _ h => h) (Or.inl ⟨by kernel_rfl, ?b10_hy8⟩) (by assumption) ?b10_rest8
          case b10_hy8 => (intro w hSw; (try dsimp only at hSw); go_simp; try (with_reducible rfl))
          try simp only [Act.put, lay1, lay2, lay3, lay4, lay5, lay6]
          refine wpAnyH_take (i := 9) (v := ?b10_v9) rfl (by kernel_rfl) (by kernel_rfl) (by kernel_rfl) (fun _ _ _ h => h) (Or.inl ⟨by kernel_rfl, ?b10_hy9⟩) (by assumption) ?b10_rest9
          case b10_hy9 => (intro w hSw; (try dsimp only at hSw); go_simp; try (with_reducible rfl))
          try simp only [Act.put, lay1, lay2, lay3, lay4, lay5, lay6]
          refine wpAnyH_take (i := 10) (v := ?b10_v10) rfl (by kernel_rfl) (by kernel_rfl) (by kernel_rfl) (fun _ _ _ h => h) (Or.inl ⟨by kernel_rfl, ?b10_hy10⟩) (by assumption) ?b10_rest10
          case b10_hy10 => (intro w hSw; (try dsimp only at hSw); go_simp; try (with_reducible rfl))
          try simp only [Act.put, lay1, lay2, lay3, lay4, lay5, lay6]
          refine wpAnyH_take (i := 11) (v := ?b10_v11) rfl (by kernel_rfl) (by kernel_rfl) (by kernel_rfl) (fun _ _ _ h => h) (Or.inl ⟨by kernel_rfl, ?b10_hy11⟩) (by assumption) ?b10_rest11
          case b10_hy11 => (intro w hSw; (try dsimp only at hSw); go_simp; try (with_reducible rfl))
          try simp only [Act.put, lay1, lay2, lay3, lay4, lay5, lay6]
          refine wpAnyH_take (i := 12) (v := ?b10_v12) rfl (by kernel_rfl) (by kernel_rfl) (by kernel_rfl) (fun _ _ _ h => h) (Or.inl ⟨by kernel_rfl, ?b10_hy12⟩) (by assumption) ?b10_rest12
          case b10_hy12 => (intro w hSw; (try dsimp only at hSw); go_simp; try (with_reducible rfl))
          try simp only [Act.put, lay1, lay2, lay3, lay4, lay5, lay6]
          refine wpAnyH_take (i := 13) (v := ?b10_v13) rfl (by kernel_rfl) (by kernel_rfl) (by kernel_rfl) (fun _ _ _ h => h) (Or.inl ⟨by kernel_rfl, ?b10_hy13⟩) (by assumption) ?b10_rest13
          case b10_hy13 => (intro w hSw; (try dsimp only at hSw); go_simp; try (with_reducible rfl))
          try simp only [Act.put, lay1, lay2, lay3, lay4, lay5, lay6]
          refine wpAnyH_take (i := 14) (v := ?b10_v14) rfl (by kernel_rfl) (by kernel_rfl) (by kernel_rfl) (fun _ _ _ h => h) (Or.inl ⟨by kernel_rfl, ?b10_hy14⟩) (by assumption) ?b10_rest14
          case b10_hy14 => (intro w hSw; (try dsimp only at hSw); go_simp; try (with_reducible rfl))
          try simp only [Act.put, lay1, lay2, lay3, lay4, lay5, lay6]
          refine wpAnyH_take (i := 15) (v := ?b10_v15) rfl (by kernel_rfl) (by kernel_rfl) (by kernel_rfl) (fun _ _ _ h => h) (Or.inl ⟨by kernel_rfl, ?b10_hy15⟩) (by assumption) ?b10_rest15
          case b10_hy15 => (intro w hSw; (try dsimp only at hSw); go_simp; try (with_reducible rfl))
          try simp only [Act.put, lay1, lay2, lay3, lay4, lay5, lay6]
          refine wpAnyH_take (i := 16) (v := ?b10_v16) rfl (by kernel_rfl) (by kernel_rfl) (by kernel_rfl) (fun _ _ _ h => h) (Or.inl ⟨by kernel_rfl, ?b10_hy16⟩) (by assumption) ?b10_rest16
          case b10_hy16 => (intro w hSw; (try dsimp only at hSw); go_simp; try (with_reducible rfl))
          try simp only [Act.put, lay1, lay2, lay3, lay4, lay5, lay6]
          refine wpAnyH_take (i := 17) (v := ?b10_v17) rfl (by kernel_rfl) (by kernel_rfl) (by kernel_rfl) (fun _ _ _ h => h) (Or.inl ⟨by kernel_rfl, ?b10_hy17⟩) (by assumption) ?b10_rest17
          case b10_hy17 => (intro w hSw; (try dsimp only at hSw); go_simp; try (with_reducible rfl))
          try simp only [Act.put, lay1, lay2, lay3, lay4, lay5, lay6]
          refine wpAnyH_ready (rs := [5]) (by kernel_rfl) (by simp) ?_
          refine AllReadyH.cons rfl (fun K hK => ?_) AllReadyH.nil
          go_simp
          refine (hLn _ _ (hbk.below d1_)).mono ?_
          rintro e u2 ⟨rfl, d2_⟩
          have d2_ := bstep d1_ d2_
          go_wp2_with fail
          refine hK.out _ _ ?_ (fun hHeld => ?_)
          · exact ⟨(hY.below (by first | assumption | exact bdrew _) hY.lt).cell 0, (hY.below (by first | assumption | exact bdrew _) hY.lt).cell 1, (hY.below (by first | assumption | exact bdrew _) hY.lt).cell 2, (hY.below (by first | assumption | exact bdrew _) hY.lt).cell 3, (hX.below (by first | assumption | exact bdrew _) hX.lt).cell 0, (hX.below (by first | assumption | exact bdrew _) hX.lt).cell 1, (hX.below (by first | assumption | exact bdrew _) hX.lt).cell 2, (hX.below (by first | assumption | exact bdrew _) hX.lt).cell 3, (hX.below (by first | assumption | exact bdrew _) hX.lt).cell 4⟩
          clear hK K
          try simp only [Act.put, lay1, lay2, lay3, lay4, lay5, lay6]
          try dsimp only
          try simp only [Act.put, lay1, lay2, lay3, lay4, lay5, lay6]
          refine wpAnyH_take (i := 18) (v := ?b10_v18) rfl (by kernel_rfl) (by kernel_rfl) (by kernel_rfl) (fun _ _ _ h => h) (Or.inl ⟨by kernel_rfl, ?b10_hy18⟩) (by assumption) ?b10_rest18
          case b10_hy18 => (intro w hSw; (try dsimp only at hSw); go_simp; try (with_reducible rfl))
          try simp only [Act.put, lay1, lay2, lay3, lay4, lay5, lay6]
          try dsimp only
          try simp only [Act.put, lay1, lay2, lay3, lay4, lay5, lay6]
          refine wpAnyH_take (i := 19) (v := ?b10_v19) rfl (by kernel_rfl) (by kernel_rfl) (by kernel_rfl) (fun _ _ _ h => h) (Or.inl ⟨by kernel_rfl, ?b10_hy19⟩) (by assumption) ?b10_rest19
          case b10_hy19 => (intro w hSw; (try dsimp only at hSw); go_simp; try (with_reducible rfl))
          try simp only [Act.put, lay1, lay2, lay3, lay4, lay5, lay6]
          try dsimp only
          try simp only [Act.put, lay1, lay2, lay3, lay4, lay5, lay6]
          refine wpAnyH_done (by kernel_rfl) ?_ _
          refine NoPanic.normal ?_
          replace hx := hx.below d2_
          replace hX := hX.below d2_ hX.lt
          replace hbk := hbk.below d2_
          replace hi1 := hi1.below d2_
          replace hY := hY.below d2_ hY.lt
          replace hB := hB.trans (d2_.mono hB.size)
          obtain ⟨c6_hX_0, c6_hX_1, c6_hX_2, c6_hX_3, c6_hX_4, c6_hX_5⟩ := hX.cells6
          obtain ⟨c6_hY_0, c6_hY_1, c6_hY_2, c6_hY_3⟩ := hY.quad
          go_wp2
          go_ret
          exact ⟨congrArg (fun b => Ending.returned (Value.bool b)) HRES.out.symm, hB⟩
    · obtain rfl : j = bs.length := by omega
      have HRES := Lib.hid hok.out
      clear c3_hX_0 c3_hX_1 c3_hX_2 c3_hX_3 c3_hX_4 c3_hX_5
      obtain ⟨c4_hX_0, c4_hX_1, c4_hX_2, c4_hX_3, c4_hX_4, c4_hX_5⟩ := hX.cells6
      go_wp2
      go_ret
      exact ⟨congrArg (fun b => Ending.returned (Value.bool b)) HRES.out.symm, hB⟩
theorem rright14_any (v : Value) (s : St) (w : World) (h : IsSt w v s) (hlb : ∀ b ∈ s.2.2.2.2.2, BkIn b) :
    Calls Tryz.prog 8 #[v] w fun e w' => e = .returned (.bool (rightS s)) ∧ Below w.heap.size w w' := by
  obtain ⟨k, z, m, o, n, bs⟩ := s
  simp only [rightS]
  by_cases hm : mayB k z m o = true
  · rw [hm, Bool.true_and]
    by_cases hn : 0 ≤ n
    · by_cases hn2 : n ≤ 4096
      · have e : ((partN z.toNat n.toNat : Nat) : Int) = (n + z - 1) / z := by
          obtain ⟨Z, rfl, z1, z2⟩ := size_of hm
          obtain ⟨N, rfl⟩ := Int.eq_ofNat_of_zero_le hn
          rw [Int.toNat_natCast, Int.toNat_natCast, partN_int z1]
        by_cases hb : (bs.length : Int) = (partN z.toNat n.toNat : Nat)
        · rw [decide_eq_true ⟨hn, hn2, hb.trans e⟩, Bool.true_and]
          exact rright14_main v k z m o n bs w h hm hn hn2 hb hlb
        · rw [decide_eq_false (fun h => hb (h.2.2.trans e.symm)), Bool.false_and]
          exact rright14_len v k z m o n bs w h hm hn hn2 hb
      · rw [decide_eq_false (fun h => hn2 h.2.1), Bool.false_and]
        exact rright14_big v k z m o n bs w h hm hn (by omega)
    · rw [decide_eq_false (fun h => hn h.1), Bool.false_and]
      exact rright14_neg v k z m o n bs w h hm (by omega)
  · have hm' : mayB k z m o = false := by simpa using hm
    rw [hm', Bool.false_and]
    exact rright14_may v k z m o n bs w h hm'
end Go.Proofs.YtochabikpaoalaaGreat
