/- The reference of layer 14: Same. Printed by gen_ref14s.py. -/
import Derived.Test.YtochabikpaoalaaGreatTens2
import Derived.Test.YtochabikpaoalaaGreatTens3
import Derived.Test.YtochabikpaoalaaGreatRef11
import Derived.Deep.RegionHeld3
import Derived.Deep.DrawnRows
namespace Go.Proofs.YtochabikpaoalaaGreat
open Go.RowKit
attribute [local go_sem ↓] Go.wp_at_zero Go.wp_at_succ
set_option maxRecDepth 100000 in
set_option maxHeartbeats 4000000 in
theorem rsame14_k (u v : Value) (k z m o n : Int) (bs : List Bk) (k' z' m' o' n' : Int) (bs' : List Bk) (w : World) (hu : IsSt w u (k, z, m, o, n, bs)) (hv : IsSt w v (k', z', m', o', n', bs'))  (hk : k ≠ k') :
    Calls Tryz.prog 13 #[u, v] w fun e w' => e = .returned (.bool false) ∧ Below w.heap.size w w' := by
  obtain ⟨x, rfl, hx⟩ := hu
  obtain ⟨y, rfl, hy⟩ := hv
  simp only at hx hy ⊢
  obtain ⟨A, c, rfl, _, _⟩ := hx.len
  obtain ⟨A', c', rfl, _, _⟩ := hy.len
  have e1 : (k == k') = false := by rw [beq_eq_false_iff_ne]; exact hk
  have e2 : decide (k = k') = false := decide_eq_false hk
  have e3 : (k != k') = true := by rw [bne_iff_ne]; exact hk
  obtain ⟨W0, hW, hT, hB⟩ := box2 w 26 26 #[.int .i64 k, .int .i64 z, .int .i64 m, .int .i64 o, .int .i64 n, .slice A bs.length c] #[.int .i64 k', .int .i64 z', .int .i64 m', .int .i64 o', .int .i64 n', .slice A' bs'.length c']
  have hW' := Lib.hid hW
  clear hW
  obtain ⟨hX, hY⟩ := hT
  replace hx := hx.below hB
  replace hy := hy.below hB
  have x0 := hX.cell 0
  have y0 := hY.cell 0
  have x1 := hX.cell 1
  have y1 := hY.cell 1
  have x2 := hX.cell 2
  have y2 := hY.cell 2
  have x3 := hX.cell 3
  have y3 := hY.cell 3
  have x4 := hX.cell 4
  have y4 := hY.cell 4
  have x5 := hX.cell 5
  have y5 := hY.cell 5
  go_enter Tryz.func13, Tryz.ntmps13
  go_wp2
  go_ret
  exact ⟨rfl, by rw [← hW'.out]; exact hB⟩
set_option maxRecDepth 100000 in
set_option maxHeartbeats 4000000 in
theorem rsame14_z (u v : Value) (k z m o n : Int) (bs : List Bk) (k' z' m' o' n' : Int) (bs' : List Bk) (w : World) (hu : IsSt w u (k, z, m, o, n, bs)) (hv : IsSt w v (k', z', m', o', n', bs')) (hk : k = k') (hz : z ≠ z') :
    Calls Tryz.prog 13 #[u, v] w fun e w' => e = .returned (.bool false) ∧ Below w.heap.size w w' := by
  obtain ⟨x, rfl, hx⟩ := hu
  obtain ⟨y, rfl, hy⟩ := hv
  simp only at hx hy ⊢
  obtain ⟨A, c, rfl, _, _⟩ := hx.len
  obtain ⟨A', c', rfl, _, _⟩ := hy.len
  subst hk
  have e1 : (z == z') = false := by rw [beq_eq_false_iff_ne]; exact hz
  have e2 : decide (z = z') = false := decide_eq_false hz
  have e3 : (z != z') = true := by rw [bne_iff_ne]; exact hz
  obtain ⟨W0, hW, hT, hB⟩ := box2 w 26 26 #[.int .i64 k, .int .i64 z, .int .i64 m, .int .i64 o, .int .i64 n, .slice A bs.length c] #[.int .i64 k, .int .i64 z', .int .i64 m', .int .i64 o', .int .i64 n', .slice A' bs'.length c']
  have hW' := Lib.hid hW
  clear hW
  obtain ⟨hX, hY⟩ := hT
  replace hx := hx.below hB
  replace hy := hy.below hB
  have x0 := hX.cell 0
  have y0 := hY.cell 0
  have x1 := hX.cell 1
  have y1 := hY.cell 1
  have x2 := hX.cell 2
  have y2 := hY.cell 2
  have x3 := hX.cell 3
  have y3 := hY.cell 3
  have x4 := hX.cell 4
  have y4 := hY.cell 4
  have x5 := hX.cell 5
  have y5 := hY.cell 5
  go_enter Tryz.func13, Tryz.ntmps13
  go_wp2
  go_ret
  exact ⟨rfl, by rw [← hW'.out]; exact hB⟩
set_option maxRecDepth 100000 in
set_option maxHeartbeats 4000000 in
theorem rsame14_m (u v : Value) (k z m o n : Int) (bs : List Bk) (k' z' m' o' n' : Int) (bs' : List Bk) (w : World) (hu : IsSt w u (k, z, m, o, n, bs)) (hv : IsSt w v (k', z', m', o', n', bs')) (hk : k = k') (hz : z = z') (hm : m ≠ m') :
    Calls Tryz.prog 13 #[u, v] w fun e w' => e = .returned (.bool false) ∧ Below w.heap.size w w' := by
  obtain ⟨x, rfl, hx⟩ := hu
  obtain ⟨y, rfl, hy⟩ := hv
  simp only at hx hy ⊢
  obtain ⟨A, c, rfl, _, _⟩ := hx.len
  obtain ⟨A', c', rfl, _, _⟩ := hy.len
  subst hk
  subst hz
  have e1 : (m == m') = false := by rw [beq_eq_false_iff_ne]; exact hm
  have e2 : decide (m = m') = false := decide_eq_false hm
  have e3 : (m != m') = true := by rw [bne_iff_ne]; exact hm
  obtain ⟨W0, hW, hT, hB⟩ := box2 w 26 26 #[.int .i64 k, .int .i64 z, .int .i64 m, .int .i64 o, .int .i64 n, .slice A bs.length c] #[.int .i64 k, .int .i64 z, .int .i64 m', .int .i64 o', .int .i64 n', .slice A' bs'.length c']
  have hW' := Lib.hid hW
  clear hW
  obtain ⟨hX, hY⟩ := hT
  replace hx := hx.below hB
  replace hy := hy.below hB
  have x0 := hX.cell 0
  have y0 := hY.cell 0
  have x1 := hX.cell 1
  have y1 := hY.cell 1
  have x2 := hX.cell 2
  have y2 := hY.cell 2
  have x3 := hX.cell 3
  have y3 := hY.cell 3
  have x4 := hX.cell 4
  have y4 := hY.cell 4
  have x5 := hX.cell 5
  have y5 := hY.cell 5
  go_enter Tryz.func13, Tryz.ntmps13
  go_wp2
  go_ret
  exact ⟨rfl, by rw [← hW'.out]; exact hB⟩
set_option maxRecDepth 100000 in
set_option maxHeartbeats 4000000 in
theorem rsame14_o (u v : Value) (k z m o n : Int) (bs : List Bk) (k' z' m' o' n' : Int) (bs' : List Bk) (w : World) (hu : IsSt w u (k, z, m, o, n, bs)) (hv : IsSt w v (k', z', m', o', n', bs')) (hk : k = k') (hz : z = z') (hm : m = m') (ho : o ≠ o') :
    Calls Tryz.prog 13 #[u, v] w fun e w' => e = .returned (.bool false) ∧ Below w.heap.size w w' := by
  obtain ⟨x, rfl, hx⟩ := hu
  obtain ⟨y, rfl, hy⟩ := hv
  simp only at hx hy ⊢
  obtain ⟨A, c, rfl, _, _⟩ := hx.len
  obtain ⟨A', c', rfl, _, _⟩ := hy.len
  subst hk
  subst hz
  subst hm
  have e1 : (o == o') = false := by rw [beq_eq_false_iff_ne]; exact ho
  have e2 : decide (o = o') = false := decide_eq_false ho
  have e3 : (o != o') = true := by rw [bne_iff_ne]; exact ho
  obtain ⟨W0, hW, hT, hB⟩ := box2 w 26 26 #[.int .i64 k, .int .i64 z, .int .i64 m, .int .i64 o, .int .i64 n, .slice A bs.length c] #[.int .i64 k, .int .i64 z, .int .i64 m, .int .i64 o', .int .i64 n', .slice A' bs'.length c']
  have hW' := Lib.hid hW
  clear hW
  obtain ⟨hX, hY⟩ := hT
  replace hx := hx.below hB
  replace hy := hy.below hB
  have x0 := hX.cell 0
  have y0 := hY.cell 0
  have x1 := hX.cell 1
  have y1 := hY.cell 1
  have x2 := hX.cell 2
  have y2 := hY.cell 2
  have x3 := hX.cell 3
  have y3 := hY.cell 3
  have x4 := hX.cell 4
  have y4 := hY.cell 4
  have x5 := hX.cell 5
  have y5 := hY.cell 5
  go_enter Tryz.func13, Tryz.ntmps13
  go_wp2
  go_ret
  exact ⟨rfl, by rw [← hW'.out]; exact hB⟩
set_option maxRecDepth 100000 in
set_option maxHeartbeats 4000000 in
theorem rsame14_n (u v : Value) (k z m o n : Int) (bs : List Bk) (k' z' m' o' n' : Int) (bs' : List Bk) (w : World) (hu : IsSt w u (k, z, m, o, n, bs)) (hv : IsSt w v (k', z', m', o', n', bs')) (hk : k = k') (hz : z = z') (hm : m = m') (ho : o = o') (hn : n ≠ n') :
    Calls Tryz.prog 13 #[u, v] w fun e w' => e = .returned (.bool false) ∧ Below w.heap.size w w' := by
  obtain ⟨x, rfl, hx⟩ := hu
  obtain ⟨y, rfl, hy⟩ := hv
  simp only at hx hy ⊢
  obtain ⟨A, c, rfl, _, _⟩ := hx.len
  obtain ⟨A', c', rfl, _, _⟩ := hy.len
  subst hk
  subst hz
  subst hm
  subst ho
  have e1 : (n == n') = false := by rw [beq_eq_false_iff_ne]; exact hn
  have e2 : decide (n = n') = false := decide_eq_false hn
  have e3 : (n != n') = true := by rw [bne_iff_ne]; exact hn
  obtain ⟨W0, hW, hT, hB⟩ := box2 w 26 26 #[.int .i64 k, .int .i64 z, .int .i64 m, .int .i64 o, .int .i64 n, .slice A bs.length c] #[.int .i64 k, .int .i64 z, .int .i64 m, .int .i64 o, .int .i64 n', .slice A' bs'.length c']
  have hW' := Lib.hid hW
  clear hW
  obtain ⟨hX, hY⟩ := hT
  replace hx := hx.below hB
  replace hy := hy.below hB
  have x0 := hX.cell 0
  have y0 := hY.cell 0
  have x1 := hX.cell 1
  have y1 := hY.cell 1
  have x2 := hX.cell 2
  have y2 := hY.cell 2
  have x3 := hX.cell 3
  have y3 := hY.cell 3
  have x4 := hX.cell 4
  have y4 := hY.cell 4
  have x5 := hX.cell 5
  have y5 := hY.cell 5
  go_enter Tryz.func13, Tryz.ntmps13
  go_wp2
  go_ret
  exact ⟨rfl, by rw [← hW'.out]; exact hB⟩
set_option maxRecDepth 100000 in
set_option maxHeartbeats 4000000 in
theorem rsame14_len (u v : Value) (k z m o n : Int) (bs : List Bk) (k' z' m' o' n' : Int) (bs' : List Bk) (w : World) (hu : IsSt w u (k, z, m, o, n, bs)) (hv : IsSt w v (k', z', m', o', n', bs')) (hk : k = k') (hz : z = z') (hm : m = m') (ho : o = o') (hn : n = n') (hl : bs.length ≠ bs'.length) :
    Calls Tryz.prog 13 #[u, v] w fun e w' => e = .returned (.bool false) ∧ Below w.heap.size w w' := by
  obtain ⟨x, rfl, hx⟩ := hu
  obtain ⟨y, rfl, hy⟩ := hv
  simp only at hx hy ⊢
  obtain ⟨A, c, rfl, _, _⟩ := hx.len
  obtain ⟨A', c', rfl, _, _⟩ := hy.len
  subst hk
  subst hz
  subst hm
  subst ho
  subst hn
  have e2 : decide ((bs.length : Int) = (bs'.length : Int)) = false := decide_eq_false (by omega)
  have e3 : ((bs.length : Int) != (bs'.length : Int)) = true := by rw [bne_iff_ne]; omega
  obtain ⟨W0, hW, hT, hB⟩ := box2 w 26 26 #[.int .i64 k, .int .i64 z, .int .i64 m, .int .i64 o, .int .i64 n, .slice A bs.length c] #[.int .i64 k, .int .i64 z, .int .i64 m, .int .i64 o, .int .i64 n, .slice A' bs'.length c']
  have hW' := Lib.hid hW
  clear hW
  obtain ⟨hX, hY⟩ := hT
  replace hx := hx.below hB
  replace hy := hy.below hB
  have x0 := hX.cell 0
  have y0 := hY.cell 0
  have x1 := hX.cell 1
  have y1 := hY.cell 1
  have x2 := hX.cell 2
  have y2 := hY.cell 2
  have x3 := hX.cell 3
  have y3 := hY.cell 3
  have x4 := hX.cell 4
  have y4 := hY.cell 4
  have x5 := hX.cell 5
  have y5 := hY.cell 5
  go_enter Tryz.func13, Tryz.ntmps13
  go_wp2
  go_ret
  exact ⟨rfl, by rw [← hW'.out]; exact hB⟩
set_option maxRecDepth 100000 in
set_option maxHeartbeats 4000000 in
theorem rsame14_eqlen (u v : Value) (k z m o n : Int) (bs : List Bk) (k' z' m' o' n' : Int) (bs' : List Bk) (w : World) (hu : IsSt w u (k, z, m, o, n, bs)) (hv : IsSt w v (k', z', m', o', n', bs')) (hk : k = k') (hz : z = z') (hm : m = m') (ho : o = o') (hn : n = n') (hl : bs.length = bs'.length) :
    Calls Tryz.prog 13 #[u, v] w fun e w' => e = .returned (.bool (decide (bs = bs'))) ∧ Below w.heap.size w w' := by
  obtain ⟨x, rfl, hx⟩ := hu
  obtain ⟨y, rfl, hy⟩ := hv
  simp only at hx hy ⊢
  obtain ⟨A, c, rfl, _, _⟩ := hx.len
  obtain ⟨A', c', rfl, _, _⟩ := hy.len
  subst hk
  subst hz
  subst hm
  subst ho
  subst hn
  have e2 : decide ((bs.length : Int) = (bs'.length : Int)) = true := decide_eq_true (by omega)
  have e3 : ((bs.length : Int) != (bs'.length : Int)) = false := by rw [hl]; simp
  have HL := Lib.hid hl
  have hr := decide_eq_true (p := bs = bs')
  have hr2 := decide_eq_false (p := bs = bs')
  generalize hq : decide (bs = bs') = q at *
  have HQ := Lib.hid (And.intro hr hr2)
  clear hr hr2 hq hl
  obtain ⟨W0, hW, hT, hB⟩ := box2 w 26 26 #[.int .i64 k, .int .i64 z, .int .i64 m, .int .i64 o, .int .i64 n, .slice A bs.length c] #[.int .i64 k, .int .i64 z, .int .i64 m, .int .i64 o, .int .i64 n, .slice A' bs'.length c']
  have hW' := Lib.hid hW
  clear hW
  obtain ⟨hX, hY⟩ := hT
  replace hx := hx.below hB
  replace hy := hy.below hB
  have x0 := hX.cell 0
  have y0 := hY.cell 0
  have x1 := hX.cell 1
  have y1 := hY.cell 1
  have x2 := hX.cell 2
  have y2 := hY.cell 2
  have x3 := hX.cell 3
  have y3 := hY.cell 3
  have x4 := hX.cell 4
  have y4 := hY.cell 4
  have x5 := hX.cell 5
  have y5 := hY.cell 5
  go_enter Tryz.func13, Tryz.ntmps13
  go_wp2_with fail
  rw [← hW'.out]
  clear x0 x1 x2 x3 x4 x5 y0 y1 y2 y3 y4 y5
  go_loopw [5] (fun i wr => ∃ j : Nat, i = .int .i64 j ∧ j ≤ bs.length ∧ Hid (bs.take j = bs'.take j) ∧ Below W0.heap.size W0 wr) (fun i _ => bs.length - (intOf i).toNat)
  case atStart => exact ⟨0, rfl, by omega, Lib.hid (by simp), Below.refl _ _⟩
  case round =>
    obtain ⟨j, rfl, hj, hej, bl⟩ := hrel
    have hX := hX.below bl hX.lt
    have hY := hY.below bl hY.lt
    have c5x := hX.cell 5
    have c5y := hY.cell 5
    by_cases hlt : j < bs.length
    · have hlt' : j < bs'.length := by have := HL.out; omega
      obtain ⟨ad, d1, k1, sc1, cs1, wd1, a1, b1, e1, _, hat1, x0, x1, x2, x3, hy1, hi1⟩ := (hx.below bl).at_ hlt
      obtain ⟨ad', d2, k2, sc2, cs2, wd2, a2, b2, e2, _, hat2, y0, y1, y2, y3, hy2, hi2⟩ := (hy.below bl).at_ hlt'
      obtain ⟨rfl, _, rfl⟩ := Value.slice.inj e1
      obtain ⟨rfl, _, rfl⟩ := Value.slice.inj e2
      obtain ⟨P1, Q1, rfl, _, _⟩ := id hy1.form
      obtain ⟨P2, Q2, rfl, _, _⟩ := id hi1.form
      obtain ⟨P3, Q3, rfl, _, _⟩ := id hy2.form
      obtain ⟨P4, Q4, rfl, _, _⟩ := id hi2.form
      have i0 : (0 : Int) ≤ (j : Int) := by omega
      have i1 : (j : Int) < (bs.length : Int) := by omega
      have i2 : (j : Int) < (bs'.length : Int) := by omega
      have hB1 : IsBk wr (.agg #[.int .i64 k1, .int .i64 sc1, .slice P1 cs1.length Q1, .slice P2 wd1.length Q2]) k1 sc1 cs1 wd1 := ⟨_, _, rfl, hy1, hi1⟩
      have hB2 : IsBk wr (.agg #[.int .i64 k2, .int .i64 sc2, .slice P3 cs2.length Q3, .slice P4 wd2.length Q4]) k2 sc2 cs2 wd2 := ⟨_, _, rfl, hy2, hi2⟩
      have hS := rbsame_any _ _ k1 sc1 cs1 wd1 k2 sc2 cs2 wd2 _ (hB1.below (bdrew wr)) (hB2.below (bdrew wr))
      rw [bk_eq] at hS
      have HAT := Lib.hid (And.intro hat1 hat2)
      clear hat1 hat2 hB1 hB2 hy1 hy2 hi1 hi2
      go_upto_region 6 with fail
      cases hd : decide (((k1, sc1, cs1, wd1) : Bk) = (k2, sc2, cs2, wd2))
      · rw [hd] at hS
        have hne := of_decide_eq_false hd
        obtain rfl : q = false := HQ.out.2 (take_ne HAT.out.1 HAT.out.2 hne)
        clear hd hne
        refine wp_region_noPanic ?_
        refine wp_region_held_drew (S := fun w' => w'.cell? ⟨w.heap.size, 5, none⟩ = some (.slice (some ad) bs.length c) ∧ w'.cell? ⟨w.heap.size + 1, 5, none⟩ = some (.slice (some ad') bs'.length c') ∧ w'.cell? (ad.add (j * 4)) = some (.int .i64 k1) ∧ w'.cell? ⟨(ad.add (j * 4)).block, (ad.add (j * 4)).off + 1, none⟩ = some (.int .i64 sc1) ∧ w'.cell? ⟨(ad.add (j * 4)).block, (ad.add (j * 4)).off + 2, none⟩ = some (.slice P1 cs1.length Q1) ∧ w'.cell? ⟨(ad.add (j * 4)).block, (ad.add (j * 4)).off + 3, none⟩ = some (.slice P2 wd1.length Q2) ∧ w'.cell? (ad'.add (j * 4)) = some (.int .i64 k2) ∧ w'.cell? ⟨(ad'.add (j * 4)).block, (ad'.add (j * 4)).off + 1, none⟩ = some (.int .i64 sc2) ∧ w'.cell? ⟨(ad'.add (j * 4)).block, (ad'.add (j * 4)).off + 2, none⟩ = some (.slice P3 cs2.length Q3) ∧ w'.cell? ⟨(ad'.add (j * 4)).block, (ad'.add (j * 4)).off + 3, none⟩ = some (.slice P4 wd2.length Q4)) (by kernel_rfl) ?_ (fun hHeld => ?_)
        · exact ⟨(hX.below (by first | assumption | exact bdrew _) hX.lt).cell 5, (hY.below (by first | assumption | exact bdrew _) hY.lt).cell 5, cellBT (by first | assumption | exact bdrew _) x0, cellBT (by first | assumption | exact bdrew _) x1, cellBT (by first | assumption | exact bdrew _) x2, cellBT (by first | assumption | exact bdrew _) x3, cellBT (by first | assumption | exact bdrew _) y0, cellBT (by first | assumption | exact bdrew _) y1, cellBT (by first | assumption | exact bdrew _) y2, cellBT (by first | assumption | exact bdrew _) y3⟩
        refine wpAnyH_take (i := 0) (v := ?b1_v0) rfl (by kernel_rfl) (by kernel_rfl) (by kernel_rfl) (fun _ _ _ h => h) (Or.inl ⟨by kernel_rfl, ?b1_hy0⟩) (by assumption) ?b1_rest0
        case b1_hy0 => (intro w hSw; (try dsimp only at hSw); go_simp; try (with_reducible rfl))
        try simp only [Act.put, lay1, lay2, lay3, lay4, lay5, lay6]
        refine wpAnyH_take (i := 1) (v := ?b1_v1) rfl (by kernel_rfl) (by kernel_rfl) (by kernel_rfl) (fun _ _ _ h => h) (Or.inl ⟨by kernel_rfl, ?b1_hy1⟩) (by assumption) ?b1_rest1
        case b1_hy1 => (intro w hSw; (try dsimp only at hSw); go_simp; try (with_reducible rfl))
        try simp only [Act.put, lay1, lay2, lay3, lay4, lay5, lay6]
        refine wpAnyH_take (i := 2) (v := ?b1_v2) rfl (by kernel_rfl) (by kernel_rfl) (by kernel_rfl) (fun _ _ _ h => h) (Or.inl ⟨by kernel_rfl, ?b1_hy2⟩) (by assumption) ?b1_rest2
        case b1_hy2 => (intro w hSw; (try dsimp only at hSw); go_simp; try (with_reducible rfl))
        try simp only [Act.put, lay1, lay2, lay3, lay4, lay5, lay6]
        refine wpAnyH_take (i := 3) (v := ?b1_v3) rfl (by kernel_rfl) (by kernel_rfl) (by kernel_rfl) (fun _ _ _ h => h) (Or.inl ⟨by kernel_rfl, ?b1_hy3⟩) (by assumption) ?b1_rest3
        case b1_hy3 => (intro w hSw; (try dsimp only at hSw); go_simp; try (with_reducible rfl))
        try simp only [Act.put, lay1, lay2, lay3, lay4, lay5, lay6]
        refine wpAnyH_take (i := 4) (v := ?b1_v4) rfl (by kernel_rfl) (by kernel_rfl) (by kernel_rfl) (fun _ _ _ h => h) (Or.inl ⟨by kernel_rfl, ?b1_hy4⟩) (by assumption) ?b1_rest4
        case b1_hy4 => (intro w hSw; (try dsimp only at hSw); go_simp; try (with_reducible rfl))
        try simp only [Act.put, lay1, lay2, lay3, lay4, lay5, lay6]
        refine wpAnyH_take (i := 5) (v := ?b1_v5) rfl (by kernel_rfl) (by kernel_rfl) (by kernel_rfl) (fun _ _ _ h => h) (Or.inl ⟨by kernel_rfl, ?b1_hy5⟩) (by assumption) ?b1_rest5
        case b1_hy5 => (intro w hSw; (try dsimp only at hSw); go_simp; try (with_reducible rfl))
        try simp only [Act.put, lay1, lay2, lay3, lay4, lay5, lay6]
        refine wpAnyH_take (i := 6) (v := ?b1_v6) rfl (by kernel_rfl) (by kernel_rfl) (by kernel_rfl) (fun _ _ _ h => h) (Or.inl ⟨by kernel_rfl, ?b1_hy6⟩) (by assumption) ?b1_rest6
        case b1_hy6 => (intro w hSw; (try dsimp only at hSw); go_simp; try (with_reducible rfl))
        try simp only [Act.put, lay1, lay2, lay3, lay4, lay5, lay6]
        refine wpAnyH_take (i := 7) (v := ?b1_v7) rfl (by kernel_rfl) (by kernel_rfl) (by kernel_rfl) (fun _ _ _ h => h) (Or.inl ⟨by kernel_rfl, ?b1_hy7⟩) (by assumption) ?b1_rest7
        case b1_hy7 => (intro w hSw; (try dsimp only at hSw); go_simp; try (with_reducible rfl))
        try simp only [Act.put, lay1, lay2, lay3, lay4, lay5, lay6]
        refine wpAnyH_take (i := 8) (v := ?b1_v8) rfl (by kernel_rfl) (by kernel_rfl) (by kernel_rfl) (fun _ _ _ h => h) (Or.inl ⟨by kernel_rfl, ?b1_hy8⟩) (by assumption) ?b1_rest8
        case b1_hy8 => (intro w hSw; (try dsimp only at hSw); go_simp; try (with_reducible rfl))
        try simp only [Act.put, lay1, lay2, lay3, lay4, lay5, lay6]
        refine wpAnyH_take (i := 9) (v := ?b1_v9) rfl (by kernel_rfl) (by kernel_rfl) (by kernel_rfl) (fun _ _ _ h => h) (Or.inl ⟨by kernel_rfl, ?b1_hy9⟩) (by assumption) ?b1_rest9
        case b1_hy9 => (intro w hSw; (try dsimp only at hSw); go_simp; try (with_reducible rfl))
        try simp only [Act.put, lay1, lay2, lay3, lay4, lay5, lay6]
        try dsimp only
        try simp only [Act.put, lay1, lay2, lay3, lay4, lay5, lay6]
        refine wpAnyH_ready (rs := [10]) (by kernel_rfl) (by simp) ?_
        refine AllReadyH.cons rfl (fun K hK => ?_) AllReadyH.nil
        go_simp
        refine hS.mono ?_
        rintro e u1 ⟨rfl, d1_⟩
        have d1_ := bstep (bdrew wr) d1_
        go_wp2_with fail
        refine hK.out _ _ ?_ (fun hHeld => ?_)
        · exact ⟨(hX.below (by first | assumption | exact bdrew _) hX.lt).cell 5, (hY.below (by first | assumption | exact bdrew _) hY.lt).cell 5, cellBT (by first | assumption | exact bdrew _) x0, cellBT (by first | assumption | exact bdrew _) x1, cellBT (by first | assumption | exact bdrew _) x2, cellBT (by first | assumption | exact bdrew _) x3, cellBT (by first | assumption | exact bdrew _) y0, cellBT (by first | assumption | exact bdrew _) y1, cellBT (by first | assumption | exact bdrew _) y2, cellBT (by first | assumption | exact bdrew _) y3⟩
        clear hK K
        try simp only [Act.put, lay1, lay2, lay3, lay4, lay5, lay6]
        try dsimp only
        try simp only [Act.put, lay1, lay2, lay3, lay4, lay5, lay6]
        refine wpAnyH_take (i := 11) (v := ?b1_v11) rfl (by kernel_rfl) (by kernel_rfl) (by kernel_rfl) (fun _ _ _ h => h) (Or.inl ⟨by kernel_rfl, ?b1_hy11⟩) (by assumption) ?b1_rest11
        case b1_hy11 => (intro w hSw; (try dsimp only at hSw); go_simp; try (with_reducible rfl))
        try simp only [Act.put, lay1, lay2, lay3, lay4, lay5, lay6]
        try dsimp only
        try simp only [Act.put, lay1, lay2, lay3, lay4, lay5, lay6]
        refine wpAnyH_done (by kernel_rfl) ?_ _
        refine NoPanic.normal ?_
        go_wp2
        go_ret
        exact ⟨rfl, hB.trans ((bl.trans (d1_.mono bl.size)).mono hB.size)⟩
      · rw [hd] at hS
        have he := of_decide_eq_true hd
        have HE := Lib.hid (take_one hej.out HAT.out.1 (he ▸ HAT.out.2))
        clear hd he
        refine wp_region_noPanic ?_
        refine wp_region_held_drew (S := fun w' => w'.cell? ⟨w.heap.size, 5, none⟩ = some (.slice (some ad) bs.length c) ∧ w'.cell? ⟨w.heap.size + 1, 5, none⟩ = some (.slice (some ad') bs'.length c') ∧ w'.cell? (ad.add (j * 4)) = some (.int .i64 k1) ∧ w'.cell? ⟨(ad.add (j * 4)).block, (ad.add (j * 4)).off + 1, none⟩ = some (.int .i64 sc1) ∧ w'.cell? ⟨(ad.add (j * 4)).block, (ad.add (j * 4)).off + 2, none⟩ = some (.slice P1 cs1.length Q1) ∧ w'.cell? ⟨(ad.add (j * 4)).block, (ad.add (j * 4)).off + 3, none⟩ = some (.slice P2 wd1.length Q2) ∧ w'.cell? (ad'.add (j * 4)) = some (.int .i64 k2) ∧ w'.cell? ⟨(ad'.add (j * 4)).block, (ad'.add (j * 4)).off + 1, none⟩ = some (.int .i64 sc2) ∧ w'.cell? ⟨(ad'.add (j * 4)).block, (ad'.add (j * 4)).off + 2, none⟩ = some (.slice P3 cs2.length Q3) ∧ w'.cell? ⟨(ad'.add (j * 4)).block, (ad'.add (j * 4)).off + 3, none⟩ = some (.slice P4 wd2.length Q4)) (by kernel_rfl) ?_ (fun hHeld => ?_)
        · exact ⟨(hX.below (by first | assumption | exact bdrew _) hX.lt).cell 5, (hY.below (by first | assumption | exact bdrew _) hY.lt).cell 5, cellBT (by first | assumption | exact bdrew _) x0, cellBT (by first | assumption | exact bdrew _) x1, cellBT (by first | assumption | exact bdrew _) x2, cellBT (by first | assumption | exact bdrew _) x3, cellBT (by first | assumption | exact bdrew _) y0, cellBT (by first | assumption | exact bdrew _) y1, cellBT (by first | assumption | exact bdrew _) y2, cellBT (by first | assumption | exact bdrew _) y3⟩
        refine wpAnyH_take (i := 0) (v := ?b2_v0) rfl (by kernel_rfl) (by kernel_rfl) (by kernel_rfl) (fun _ _ _ h => h) (Or.inl ⟨by kernel_rfl, ?b2_hy0⟩) (by assumption) ?b2_rest0
        case b2_hy0 => (intro w hSw; (try dsimp only at hSw); go_simp; try (with_reducible rfl))
        try simp only [Act.put, lay1, lay2, lay3, lay4, lay5, lay6]
        refine wpAnyH_take (i := 1) (v := ?b2_v1) rfl (by kernel_rfl) (by kernel_rfl) (by kernel_rfl) (fun _ _ _ h => h) (Or.inl ⟨by kernel_rfl, ?b2_hy1⟩) (by assumption) ?b2_rest1
        case b2_hy1 => (intro w hSw; (try dsimp only at hSw); go_simp; try (with_reducible rfl))
        try simp only [Act.put, lay1, lay2, lay3, lay4, lay5, lay6]
        refine wpAnyH_take (i := 2) (v := ?b2_v2) rfl (by kernel_rfl) (by kernel_rfl) (by kernel_rfl) (fun _ _ _ h => h) (Or.inl ⟨by kernel_rfl, ?b2_hy2⟩) (by assumption) ?b2_rest2
        case b2_hy2 => (intro w hSw; (try dsimp only at hSw); go_simp; try (with_reducible rfl))
        try simp only [Act.put, lay1, lay2, lay3, lay4, lay5, lay6]
        refine wpAnyH_take (i := 3) (v := ?b2_v3) rfl (by kernel_rfl) (by kernel_rfl) (by kernel_rfl) (fun _ _ _ h => h) (Or.inl ⟨by kernel_rfl, ?b2_hy3⟩) (by assumption) ?b2_rest3
        case b2_hy3 => (intro w hSw; (try dsimp only at hSw); go_simp; try (with_reducible rfl))
        try simp only [Act.put, lay1, lay2, lay3, lay4, lay5, lay6]
        refine wpAnyH_take (i := 4) (v := ?b2_v4) rfl (by kernel_rfl) (by kernel_rfl) (by kernel_rfl) (fun _ _ _ h => h) (Or.inl ⟨by kernel_rfl, ?b2_hy4⟩) (by assumption) ?b2_rest4
        case b2_hy4 => (intro w hSw; (try dsimp only at hSw); go_simp; try (with_reducible rfl))
        try simp only [Act.put, lay1, lay2, lay3, lay4, lay5, lay6]
        refine wpAnyH_take (i := 5) (v := ?b2_v5) rfl (by kernel_rfl) (by kernel_rfl) (by kernel_rfl) (fun _ _ _ h => h) (Or.inl ⟨by kernel_rfl, ?b2_hy5⟩) (by assumption) ?b2_rest5
        case b2_hy5 => (intro w hSw; (try dsimp only at hSw); go_simp; try (with_reducible rfl))
        try simp only [Act.put, lay1, lay2, lay3, lay4, lay5, lay6]
        refine wpAnyH_take (i := 6) (v := ?b2_v6) rfl (by kernel_rfl) (by kernel_rfl) (by kernel_rfl) (fun _ _ _ h => h) (Or.inl ⟨by kernel_rfl, ?b2_hy6⟩) (by assumption) ?b2_rest6
        case b2_hy6 => (intro w hSw; (try dsimp only at hSw); go_simp; try (with_reducible rfl))
        try simp only [Act.put, lay1, lay2, lay3, lay4, lay5, lay6]
        refine wpAnyH_take (i := 7) (v := ?b2_v7) rfl (by kernel_rfl) (by kernel_rfl) (by kernel_rfl) (fun _ _ _ h => h) (Or.inl ⟨by kernel_rfl, ?b2_hy7⟩) (by assumption) ?b2_rest7
        case b2_hy7 => (intro w hSw; (try dsimp only at hSw); go_simp; try (with_reducible rfl))
        try simp only [Act.put, lay1, lay2, lay3, lay4, lay5, lay6]
        refine wpAnyH_take (i := 8) (v := ?b2_v8) rfl (by kernel_rfl) (by kernel_rfl) (by kernel_rfl) (fun _ _ _ h => h) (Or.inl ⟨by kernel_rfl, ?b2_hy8⟩) (by assumption) ?b2_rest8
        case b2_hy8 => (intro w hSw; (try dsimp only at hSw); go_simp; try (with_reducible rfl))
        try simp only [Act.put, lay1, lay2, lay3, lay4, lay5, lay6]
        refine wpAnyH_take (i := 9) (v := ?b2_v9) rfl (by kernel_rfl) (by kernel_rfl) (by kernel_rfl) (fun _ _ _ h => h) (Or.inl ⟨by kernel_rfl, ?b2_hy9⟩) (by assumption) ?b2_rest9
        case b2_hy9 => (intro w hSw; (try dsimp only at hSw); go_simp; try (with_reducible rfl))
        try simp only [Act.put, lay1, lay2, lay3, lay4, lay5, lay6]
        try dsimp only
        try simp only [Act.put, lay1, lay2, lay3, lay4, lay5, lay6]
        refine wpAnyH_ready (rs := [10]) (by kernel_rfl) (by simp) ?_
        refine AllReadyH.cons rfl (fun K hK => ?_) AllReadyH.nil
        go_simp
        refine hS.mono ?_
        rintro e u1 ⟨rfl, d1_⟩
        have d1_ := bstep (bdrew wr) d1_
        go_wp2_with fail
        refine hK.out _ _ ?_ (fun hHeld => ?_)
        · exact ⟨(hX.below (by first | assumption | exact bdrew _) hX.lt).cell 5, (hY.below (by first | assumption | exact bdrew _) hY.lt).cell 5, cellBT (by first | assumption | exact bdrew _) x0, cellBT (by first | assumption | exact bdrew _) x1, cellBT (by first | assumption | exact bdrew _) x2, cellBT (by first | assumption | exact bdrew _) x3, cellBT (by first | assumption | exact bdrew _) y0, cellBT (by first | assumption | exact bdrew _) y1, cellBT (by first | assumption | exact bdrew _) y2, cellBT (by first | assumption | exact bdrew _) y3⟩
        clear hK K
        try simp only [Act.put, lay1, lay2, lay3, lay4, lay5, lay6]
        try dsimp only
        try simp only [Act.put, lay1, lay2, lay3, lay4, lay5, lay6]
        refine wpAnyH_take (i := 11) (v := ?b2_v11) rfl (by kernel_rfl) (by kernel_rfl) (by kernel_rfl) (fun _ _ _ h => h) (Or.inl ⟨by kernel_rfl, ?b2_hy11⟩) (by assumption) ?b2_rest11
        case b2_hy11 => (intro w hSw; (try dsimp only at hSw); go_simp; try (with_reducible rfl))
        try simp only [Act.put, lay1, lay2, lay3, lay4, lay5, lay6]
        try dsimp only
        try simp only [Act.put, lay1, lay2, lay3, lay4, lay5, lay6]
        refine wpAnyH_done (by kernel_rfl) ?_ _
        refine NoPanic.normal ?_
        go_wp2
        exact ⟨⟨j + 1, by go_num, by omega, HE, bl.trans (d1_.mono bl.size)⟩, by simp [intOf]; omega⟩
    · obtain rfl : j = bs.length := by omega
      obtain rfl : q = true := HQ.out.1 (take_all hej.out HL.out)
      go_wp2
      go_ret
      exact ⟨rfl, hB.trans (bl.mono hB.size)⟩
theorem rsame14_all (u v : Value) (k z m o n : Int) (bs : List Bk) (k' z' m' o' n' : Int) (bs' : List Bk) (w : World) (hu : IsSt w u (k, z, m, o, n, bs)) (hv : IsSt w v (k', z', m', o', n', bs')) (hk : k = k') (hz : z = z') (hm : m = m') (ho : o = o') (hn : n = n') :
    Calls Tryz.prog 13 #[u, v] w fun e w' => e = .returned (.bool (decide (bs = bs'))) ∧ Below w.heap.size w w' := by
  by_cases hl : bs.length = bs'.length
  · exact rsame14_eqlen u v k z m o n bs k' z' m' o' n' bs' w hu hv hk hz hm ho hn hl
  · rw [decide_eq_false (fun e => hl (congrArg List.length e))]
    exact rsame14_len u v k z m o n bs k' z' m' o' n' bs' w hu hv hk hz hm ho hn hl
theorem rsame14_any (u v : Value) (s s' : St) (w : World) (hu : IsSt w u s) (hv : IsSt w v s') :
    Calls Tryz.prog 13 #[u, v] w fun e w' => e = .returned (.bool (eqS s s')) ∧ Below w.heap.size w w' := by
  obtain ⟨k, z, m, o, n, bs⟩ := s
  obtain ⟨k', z', m', o', n', bs'⟩ := s'
  unfold eqS
  simp only
  by_cases hk : k = k'
  · by_cases hz : z = z'
    · by_cases hm : m = m'
      · by_cases ho : o = o'
        · by_cases hn : n = n'
          · rw [decide_eq_true hk, decide_eq_true hz, decide_eq_true hm, decide_eq_true ho, decide_eq_true hn]
            exact rsame14_all u v k z m o n bs k' z' m' o' n' bs' w hu hv hk hz hm ho hn
          · rw [decide_eq_false hn, Bool.false_and, Bool.and_false, Bool.and_false, Bool.and_false, Bool.and_false]; exact rsame14_n u v k z m o n bs k' z' m' o' n' bs' w hu hv hk hz hm ho hn
        · rw [decide_eq_false ho, Bool.false_and, Bool.and_false, Bool.and_false, Bool.and_false]; exact rsame14_o u v k z m o n bs k' z' m' o' n' bs' w hu hv hk hz hm ho
      · rw [decide_eq_false hm, Bool.false_and, Bool.and_false, Bool.and_false]; exact rsame14_m u v k z m o n bs k' z' m' o' n' bs' w hu hv hk hz hm
    · rw [decide_eq_false hz, Bool.false_and, Bool.and_false]; exact rsame14_z u v k z m o n bs k' z' m' o' n' bs' w hu hv hk hz
  · rw [decide_eq_false hk, Bool.false_and]; exact rsame14_k u v k z m o n bs k' z' m' o' n' bs' w hu hv hk
end Go.Proofs.YtochabikpaoalaaGreat
