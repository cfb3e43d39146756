/- The reference of layer 14: Few, Load, Cost. Printed by gen_ref14t.py. -/
import Derived.Test.YtochabikpaoalaaGreatTens1
import Derived.Test.YtochabikpaoalaaGreatRef11
import Derived.Test.YtochabikpaoalaaGreatTellsG
import Derived.Deep.DeepMust
import Derived.Test.YtochabikpaoalaaGreatRef14s
import Derived.Test.YtochabikpaoalaaGreatRef14q
import Derived.Deep.RegionHeld3
import Derived.Deep.DrawnRows
namespace Go.Proofs.YtochabikpaoalaaGreat
open Go.RowKit
attribute [local go_sem ↓] Go.wp_at_zero Go.wp_at_succ
theorem rbload_any (v : Value) (b : Bk) (w : World) (h : IsBk w v b.1 b.2.1 b.2.2.1 b.2.2.2) (hl : LoadB b) (hf : bkLen b ≤ 5000) :
    Calls Tryz.prog 33 #[v] w fun e w' => ∃ v', e = .returned v' ∧ IsI w' v' (bkNums b) ∧ Below w.heap.size w w' := by
  obtain ⟨k, s, cs, wd⟩ := b
  simp only [bkLen] at *
  unfold bkNums
  by_cases hk : k = 4
  · simp only; rw [if_pos hk]
    subst hk
    exact rload_wide v s cs wd w h (by omega)
  · simp only; rw [if_neg hk]
    obtain ⟨h0, h1, h2, h3⟩ := hl.resolve_left hk
    obtain ⟨n, rfl⟩ := Int.eq_ofNat_of_zero_le h0
    rw [Int.toNat_natCast]
    simp only at h1 h2 h3
    exact rload_coded v n s cs wd w (by omega) h2 h3 (by omega) h
set_option maxRecDepth 100000 in
set_option maxHeartbeats 2000000 in
theorem rcost14_any (v : Value) (s : St) (w : World) (h : IsSt w v s) (hf : FewB s.2.2.2.2.2) :
    Calls Tryz.prog 15 #[v] w fun e w' => e = .returned (.int .i64 (costS s.2.2.2.2.2)) ∧ Below w.heap.size w w' := by
  obtain ⟨k, z, m, o, n, bs⟩ := s
  obtain ⟨x, rfl, hb⟩ := h
  simp only at *
  obtain ⟨A, c, rfl, hc1, hc2⟩ := hb.len
  obtain ⟨W0, hW, hR, hB⟩ := box1 w 26 #[.int .i64 k, .int .i64 z, .int .i64 m, .int .i64 o, .int .i64 n, .slice A bs.length c]
  obtain ⟨g, hg⟩ : ∃ g, g = w.heap.size := ⟨_, rfl⟩
  have hW' := Lib.hid (And.intro hW hg)
  rw [← hg] at hR
  clear hW hg
  replace hb := hb.below hB
  have c5 := hR.cell 5
  go_enter Tryz.func15, Tryz.ntmps15
  go_upto_block 0 with fail
  rw [← hW'.out.1, ← hW'.out.2]
  go_wp2_with fail
  go_loopw [4, 3] (fun i t wr => ∃ j : Nat, i = .int .i64 j ∧ j ≤ bs.length ∧ t = .int .i64 (costS (bs.take j)) ∧ Below W0.heap.size W0 wr) (fun i _ _ => bs.length - (intOf i).toNat)
  case atStart => exact ⟨0, rfl, by omega, rfl, Below.refl _ _⟩
  case round =>
    obtain ⟨j, rfl, hj, rfl, bl⟩ := hrel
    have c5 := (hR.below bl hR.lt).cell 5
    by_cases hlt : j < bs.length
    · obtain ⟨ad, c', k1, s1, cs, wd, a1, b1, e1, _, hat, x0, x1, x2, x3, hy, hi1⟩ := (hb.below bl).at_ hlt
      obtain ⟨rfl, _, rfl⟩ := Value.slice.inj e1
      obtain ⟨A2, C2, rfl, _, _⟩ := id hy.form
      obtain ⟨A3, C3, rfl, _, _⟩ := id hi1.form
      have i0 : (0 : Int) ≤ (j : Int) := by omega
      have i1 : (j : Int) < (bs.length : Int) := by omega
      have HS := Lib.hid (show costS (bs.take (j + 1)) = costS (bs.take j) + costB (k1, s1, cs, wd) by rw [take_bk hat, costS_snoc])
      have hl := hf.2 _ (mem_at hat)
      have HC := Lib.hid (show costB (k1, s1, cs, wd) = if k1 = 4 then 8 * (wd.length : Int) else (cs.length : Int) + 8 from rfl)
      have hq := costS_le (hf.take j)
      have hn0 := hf.1
      rw [List.length_take, Nat.min_eq_left hj] at hq
      simp only [bkLen] at hl
      have i2 : (cs.length : Int) ≤ 5000 := by omega
      have i3 : (wd.length : Int) ≤ 5000 := by omega
      have i4 : costS (bs.take j) ≤ 240000000 := by omega
      have i5 := hq.1
      generalize costS (bs.take j) = t0 at *
      generalize cs.length = nc at *
      generalize wd.length = nw at *
      clear hq hl hat hy hi1 hn0
      by_cases hk : k1 = 4
      · subst hk
        go_wp2
        exact ⟨⟨j + 1, by go_num, by omega, by rw [HS.out, HC.out, if_pos rfl], bl⟩, by simp [intOf]; omega⟩
      · go_wp2
        exact ⟨⟨j + 1, by go_num, by omega, by rw [HS.out, HC.out, if_neg hk]; congr 1; omega, bl⟩, by simp [intOf]; omega⟩
    · obtain rfl : j = bs.length := by omega
      rw [List.take_length]
      go_wp2
      go_ret
      exact ⟨rfl, hB.trans (bl.mono hB.size)⟩
set_option maxRecDepth 100000 in
set_option maxHeartbeats 2000000 in
theorem rload14_any (v : Value) (s : St) (w : World) (h : IsSt w v s) (hf : FewB s.2.2.2.2.2) (hld : ∀ b ∈ s.2.2.2.2.2, LoadB b) :
    Calls Tryz.prog 18 #[v] w fun e w' => ∃ v', e = .returned v' ∧ IsI w' v' (loadS s.2.2.2.2.2) ∧ Below w.heap.size w w' := by
  obtain ⟨i0, hi, hz0, hz1, hz2⟩ := info_parts info_i64
  obtain ⟨k, z, m, o, n, bs⟩ := s
  obtain ⟨x, rfl, hb⟩ := h
  simp only at *
  obtain ⟨A, c, rfl, hc1, hc2⟩ := hb.len
  obtain ⟨W0, hW, hR, hB⟩ := box1 w 26 #[.int .i64 k, .int .i64 z, .int .i64 m, .int .i64 o, .int .i64 n, .slice A bs.length c]
  obtain ⟨g, hg⟩ : ∃ g, g = w.heap.size := ⟨_, rfl⟩
  have hW' := Lib.hid (And.intro hW hg)
  rw [← hg] at hR
  clear hW hg
  replace hb := hb.below hB
  have c5 := hR.cell 5
  have hown0 := World.ownsRow_lit W0 #[] 0 (base := W0.heap.size) (e := 2) (size := 1) (Nat.le_refl _) (by unfold maxLen; omega) rfl
  go_enter Tryz.func18, Tryz.ntmps18
  go_upto_block 0 with fail
  rw [← hW'.out.1, ← hW'.out.2]
  go_wp2_with fail
  go_loopw [4, 3] (fun i t wr => ∃ j : Nat, i = .int .i64 j ∧ j ≤ bs.length ∧ wr.ownsRow W0.heap.size 2 1 t (loadS (bs.take j)).length (is (loadS (bs.take j))) ∧ Below W0.heap.size W0 wr) (fun i _ _ => bs.length - (intOf i).toNat)
  case atStart => exact ⟨0, rfl, by omega, by rw [show g + 1 = W0.heap.size from by rw [hW'.out.1, hW'.out.2]; simp]; exact hown0, (Below.refl _ W0).alloc (Nat.le_refl _) _⟩
  case round =>
    rename_i t0 _
    obtain ⟨j, rfl, hj, hown, bl⟩ := hrel
    have c5 := (hR.below bl hR.lt).cell 5
    by_cases hlt : j < bs.length
    · obtain ⟨ad, c', k1, s1, cs, wd, a1, b1, e1, _, hat, x0, x1, x2, x3, hy, hi1⟩ := (hb.below bl).at_ hlt
      obtain ⟨rfl, _, rfl⟩ := Value.slice.inj e1
      obtain ⟨A2, C2, rfl, _, _⟩ := id hy.form
      obtain ⟨A3, C3, rfl, _, _⟩ := id hi1.form
      have i0' : (0 : Int) ≤ (j : Int) := by omega
      have i1 : (j : Int) < (bs.length : Int) := by omega
      have HS := Lib.hid (show loadS (bs.take (j + 1)) = loadS (bs.take j) ++ bkNums (k1, s1, cs, wd) by rw [take_bk hat, loadS_snoc])
      have hl := hf.2 _ (mem_at hat)
      have hq := loadS_le (hf.take j)
      have hn0 := hf.1
      rw [List.length_take, Nat.min_eq_left hj] at hq
      have hlb := bkNums_le (k1, s1, cs, wd)
      have hL := fun w h => rbload_any (.agg #[.int .i64 k1, .int .i64 s1, .slice A2 cs.length C2, .slice A3 wd.length C3]) (k1, s1, cs, wd) w h (hld _ (mem_at hat)) hl
      have hlen : (loadS (bs.take j)).length ≤ 25000000 := by omega
      have hlen2 : (bkNums (k1, s1, cs, wd)).length ≤ 5000 := by omega
      have hbk : IsBk wr (.agg #[.int .i64 k1, .int .i64 s1, .slice A2 cs.length C2, .slice A3 wd.length C3]) k1 s1 cs wd := ⟨_, _, rfl, hy, hi1⟩
      generalize loadS (bs.take j) = t0 at *
      generalize bkNums (k1, s1, cs, wd) = tb at *
      clear hq hl hat hn0 hlb
      go_wp2_with fail
      refine (hL _ hbk).mono ?_
      rintro e w1 ⟨v1, rfl, h1, B1⟩
      have own1 := own_below hown B1
      have bl1 := bstep bl B1
      obtain ⟨A4, C4, rfl, q1, q2, hr4⟩ := h1
      go_wp2_with (at_builtin; go_must (refine wpList_append_any _ rfl (.tmp 13) (.tmp 19) _ rfl W0.heap.size 2 i0 _ 1 8 Tryz.underlying34 hi hz0 hz1 hz2 rfl (by omega) _ _ _ rfl own1 w1.heap.size A4 tb.length C4 (is tb) rfl hr4 (is_one _) (by unfold maxLen; omega) (by omega) bl1.size ?_; intro v' w' hown' hgrow hat))
      rw [← is_append] at hown'
      refine ⟨⟨j + 1, by go_num, by omega, by rw [HS.out, List.length_append]; exact hown', bl1.grown hgrow bl1.size (fun g e => (own1.lt g e).1)⟩, by simp [intOf]; omega⟩
    · obtain rfl : j = bs.length := by omega
      rw [List.take_length] at hown
      go_wp2
      go_ret
      exact ⟨_, rfl, IsI.of_own hown, hB.trans (bl.mono hB.size)⟩
/-- are there few numbers, in few blocks? -/
def fewS (bs : List Bk) : Bool := decide (bs.length ≤ 24) && decide (lenS bs ≤ 24)
theorem lenS_le : ∀ {bs : List Bk}, (∀ b ∈ bs, bkLen b ≤ 281474976710656) → lenS bs ≤ 281474976710656 * bs.length
  | [], _ => by simp [lenS]
  | b :: r, h => by
    have h1 := h b (by simp)
    have h2 := lenS_le (bs := r) fun x hx => h x (by simp [hx])
    simp only [lenS, List.length_cons]; omega
theorem lenS_mem : ∀ {bs : List Bk} {b : Bk}, b ∈ bs → bkLen b ≤ lenS bs
  | x :: r, b, h => by
    simp only [lenS]
    rcases List.mem_cons.1 h with rfl | h
    · omega
    · have := lenS_mem h; omega
set_option maxRecDepth 100000 in
set_option maxHeartbeats 2000000 in
theorem rfew14_few (v : Value) (s : St) (w : World) (h : IsSt w v s) (hin : ∀ b ∈ s.2.2.2.2.2, BkIn b) (hn : s.2.2.2.2.2.length ≤ 24) :
    Calls Tryz.prog 6 #[v, .int .i64 24] w fun e w' => e = .returned (.bool (decide (lenS s.2.2.2.2.2 ≤ 24))) ∧ Below w.heap.size w w' := by
  obtain ⟨k, z, m, o, n, bs⟩ := s
  obtain ⟨x, rfl, hb⟩ := h
  simp only at *
  obtain ⟨A, c, rfl, hc1, hc2⟩ := hb.len
  obtain ⟨W0, hW, hR, hB⟩ := box1 w 26 #[.int .i64 k, .int .i64 z, .int .i64 m, .int .i64 o, .int .i64 n, .slice A bs.length c]
  obtain ⟨g, hg⟩ : ∃ g, g = w.heap.size := ⟨_, rfl⟩
  have hW' := Lib.hid (And.intro hW hg)
  rw [← hg] at hR
  clear hW hg
  replace hb := hb.below hB
  have c5 := hR.cell 5
  go_enter Tryz.func6, Tryz.ntmps6
  go_upto_block 0 with fail
  rw [← hW'.out.1, ← hW'.out.2]
  go_wp2_with fail
  go_loopw [6, 5] (fun i t wr => ∃ j : Nat, i = .int .i64 j ∧ j ≤ bs.length ∧ (t = .int .i64 (lenS (bs.take j) : Nat)) ∧ Below W0.heap.size W0 wr) (fun i _ _ => bs.length - (intOf i).toNat)
  case atStart => exact ⟨0, rfl, by omega, rfl, Below.refl _ _⟩
  case round =>
    obtain ⟨j, rfl, hj, rfl, bl⟩ := hrel
    have c5 := (hR.below bl hR.lt).cell 5
    by_cases hlt : j < bs.length
    · obtain ⟨ad, c', k1, s1, cs, wd, a1, b1, e1, _, hat, x0, x1, x2, x3, hy, hi1⟩ := (hb.below bl).at_ hlt
      obtain ⟨rfl, _, rfl⟩ := Value.slice.inj e1
      obtain ⟨A2, C2, rfl, _, _⟩ := id hy.form
      obtain ⟨A3, C3, rfl, _, _⟩ := id hi1.form
      have i0 : (0 : Int) ≤ (j : Int) := by omega
      have i1 : (j : Int) < (bs.length : Int) := by omega
      obtain ⟨_, _, _, l1, l2⟩ := hin _ (mem_at hat)
      simp only at l1 l2
      have hL := fun w h => rblen_any (.agg #[.int .i64 k1, .int .i64 s1, .slice A2 cs.length C2, .slice A3 wd.length C3]) k1 s1 cs wd w h (by omega) l2
      have hbk : IsBk wr (.agg #[.int .i64 k1, .int .i64 s1, .slice A2 cs.length C2, .slice A3 wd.length C3]) k1 s1 cs wd := ⟨_, _, rfl, hy, hi1⟩
      have HS := Lib.hid (show lenS (bs.take (j + 1)) = lenS (bs.take j) + (cs.length + wd.length) by rw [take_bk hat, lenS_snoc]; rfl)
      have hq := lenS_le (bs := bs.take j) (fun b hb' => by
        obtain ⟨_, _, _, q1, q2⟩ := hin b (List.mem_of_mem_take hb')
        unfold bkLen; omega)
      rw [List.length_take, Nat.min_eq_left hj] at hq
      have hq2 : lenS (bs.take j) ≤ 6755399441055744 := by omega
      generalize lenS (bs.take j) = t0 at *
      have hw1 : IntKind.i64.wrap ((t0 : Int) + ((cs.length : Int) + (wd.length : Int))) = ((t0 + (cs.length + wd.length) : Nat) : Int) := by rw [IntKind.wrap_i64]; omega
      have q0 : (0 : Int) ≤ (t0 : Int) := by omega
      have q1 : (t0 : Int) ≤ 6755399441055744 := by omega
      have q2 : (cs.length : Int) ≤ 140737488351232 := by omega
      have q3 : (wd.length : Int) ≤ 17592186044416 := by omega
      have HW1 := Lib.hid hw1
      clear hq hq2 hw1 hat hy hi1
      go_wp2_with fail
      refine (hL _ hbk).mono ?_
      rintro e w1 ⟨rfl, B1⟩
      go_wp2
      exact ⟨⟨j + 1, by go_num, by omega, by first | (rw [HS.out]; done) | (rw [HS.out]; congr 1; done) | (rw [HS.out]; congr 1; omega), bstep bl B1⟩, by simp [intOf]; omega⟩
    · obtain rfl : j = bs.length := by omega
      rw [List.take_length]
      have n1 : decide ((bs.length : Int) ≤ 24) = true := decide_eq_true (by omega)
      have n2 : decide (bs.length ≤ 24) = true := decide_eq_true hn
      by_cases hy : lenS bs ≤ 24
      · have n3 : decide ((lenS bs : Int) ≤ 24) = true := decide_eq_true (by omega)
        have N4 := Lib.hid (decide_eq_true hy)
        clear hy
        go_wp2
        go_ret
        exact ⟨congrArg (fun b => Ending.returned (Value.bool b)) N4.out.symm, hB.trans (bl.mono hB.size)⟩
      · have n3 : decide ((lenS bs : Int) ≤ 24) = false := decide_eq_false (by omega)
        have N4 := Lib.hid (decide_eq_false hy)
        clear hy
        go_wp2
        go_ret
        exact ⟨congrArg (fun b => Ending.returned (Value.bool b)) N4.out.symm, hB.trans (bl.mono hB.size)⟩
set_option maxRecDepth 100000 in
set_option maxHeartbeats 2000000 in
theorem rfew14_many (v : Value) (s : St) (w : World) (h : IsSt w v s) (hin : ∀ b ∈ s.2.2.2.2.2, BkIn b) (hn : ¬ s.2.2.2.2.2.length ≤ 24) :
    Calls Tryz.prog 6 #[v, .int .i64 24] w fun e w' => e = .returned (.bool false) ∧ Below w.heap.size w w' := by
  obtain ⟨k, z, m, o, n, bs⟩ := s
  obtain ⟨x, rfl, hb⟩ := h
  simp only at *
  obtain ⟨A, c, rfl, hc1, hc2⟩ := hb.len
  obtain ⟨W0, hW, hR, hB⟩ := box1 w 26 #[.int .i64 k, .int .i64 z, .int .i64 m, .int .i64 o, .int .i64 n, .slice A bs.length c]
  obtain ⟨g, hg⟩ : ∃ g, g = w.heap.size := ⟨_, rfl⟩
  have hW' := Lib.hid (And.intro hW hg)
  rw [← hg] at hR
  clear hW hg
  replace hb := hb.below hB
  have c5 := hR.cell 5
  go_enter Tryz.func6, Tryz.ntmps6
  go_upto_block 0 with fail
  rw [← hW'.out.1, ← hW'.out.2]
  go_wp2_with fail
  go_loopw [6, 5] (fun i t wr => ∃ j : Nat, i = .int .i64 j ∧ j ≤ bs.length ∧ (∃ y : Int, t = .int .i64 y) ∧ Below W0.heap.size W0 wr) (fun i _ _ => bs.length - (intOf i).toNat)
  case atStart => exact ⟨0, rfl, by omega, ⟨_, rfl⟩, Below.refl _ _⟩
  case round =>
    obtain ⟨j, rfl, hj, ⟨y, rfl⟩, bl⟩ := hrel
    have c5 := (hR.below bl hR.lt).cell 5
    by_cases hlt : j < bs.length
    · obtain ⟨ad, c', k1, s1, cs, wd, a1, b1, e1, _, hat, x0, x1, x2, x3, hy, hi1⟩ := (hb.below bl).at_ hlt
      obtain ⟨rfl, _, rfl⟩ := Value.slice.inj e1
      obtain ⟨A2, C2, rfl, _, _⟩ := id hy.form
      obtain ⟨A3, C3, rfl, _, _⟩ := id hi1.form
      have i0 : (0 : Int) ≤ (j : Int) := by omega
      have i1 : (j : Int) < (bs.length : Int) := by omega
      obtain ⟨_, _, _, l1, l2⟩ := hin _ (mem_at hat)
      simp only at l1 l2
      have hL := fun w h => rblen_any (.agg #[.int .i64 k1, .int .i64 s1, .slice A2 cs.length C2, .slice A3 wd.length C3]) k1 s1 cs wd w h (by omega) l2
      have hbk : IsBk wr (.agg #[.int .i64 k1, .int .i64 s1, .slice A2 cs.length C2, .slice A3 wd.length C3]) k1 s1 cs wd := ⟨_, _, rfl, hy, hi1⟩
      obtain ⟨y2, hy2⟩ : ∃ y2 : Int, y2 = (cs.length : Int) + wd.length := ⟨_, rfl⟩
      rw [← hy2] at hL
      clear hy2 hat hy hi1
      go_wp2_with fail
      refine (hL _ hbk).mono ?_
      rintro e w1 ⟨rfl, B1⟩
      go_wp2
      exact ⟨⟨j + 1, by go_num, by omega, ⟨_, rfl⟩, bstep bl B1⟩, by simp [intOf]; omega⟩
    · obtain rfl : j = bs.length := by omega
      have n1 : decide ((bs.length : Int) ≤ 24) = false := decide_eq_false (by omega)
      have n2 : decide (bs.length ≤ 24) = false := decide_eq_false hn
      rcases Int.lt_or_le 24 y with hy | hy
      · have n3 : decide (y ≤ 24) = false := decide_eq_false (by omega)
        clear hy
        go_wp2
        go_ret
        exact ⟨rfl, hB.trans (bl.mono hB.size)⟩
      · have n3 : decide (y ≤ 24) = true := decide_eq_true hy
        clear hy
        go_wp2
        go_ret
        exact ⟨rfl, hB.trans (bl.mono hB.size)⟩
theorem rfew14_any (v : Value) (s : St) (w : World) (h : IsSt w v s) (hin : ∀ b ∈ s.2.2.2.2.2, BkIn b) :
    Calls Tryz.prog 6 #[v, .int .i64 24] w fun e w' => e = .returned (.bool (fewS s.2.2.2.2.2)) ∧ Below w.heap.size w w' := by
  unfold fewS
  by_cases hn : s.2.2.2.2.2.length ≤ 24
  · rw [decide_eq_true hn, Bool.true_and]; exact rfew14_few v s w h hin hn
  · rw [decide_eq_false hn, Bool.false_and]; exact rfew14_many v s w h hin hn
end Go.Proofs.YtochabikpaoalaaGreat
namespace Go.Proofs.YtochabikpaoalaaGreat
open Go.RowKit
attribute [local go_sem ↓] Go.wp_at_zero Go.wp_at_succ
theorem few_facts {bs : List Bk} (h : fewS bs = true) : FewB bs := by
  unfold fewS at h
  rw [Bool.and_eq_true, decide_eq_true_eq, decide_eq_true_eq] at h
  exact ⟨by omega, fun b hb => by have := lenS_mem hb; omega⟩
theorem long_facts {bs : List Bk} (h : ∀ b ∈ bs, BkIn b) : LongB bs := fun b hb => ⟨(h b hb).2.2.2.1, (h b hb).2.2.2.2⟩
theorem right_load {s : St} (h : rightS s = true) (hin : ∀ b ∈ s.2.2.2.2.2, BkIn b) : ∀ b ∈ s.2.2.2.2.2, LoadB b := by
  obtain ⟨k, z, m, o, n, bs⟩ := s
  intro b hb
  simp only [rightS, Bool.and_eq_true] at h hb
  obtain ⟨i, hi⟩ := List.getElem?_of_mem hb
  have hlt := (List.getElem?_eq_some_iff.1 hi).1
  have hok := h.2.2
  unfold okTo at hok
  have := List.all_eq_true.1 hok i (List.mem_range.2 hlt)
  rw [hi] at this
  unfold okAt at this
  simp only [Option.getD_some, Bool.and_eq_true] at this
  have hr := this.1
  have hI := (hin b hb).2.1
  obtain ⟨k1, s1, cs, wd⟩ := b
  unfold bkR at hr
  simp only at hr hI
  by_cases h4 : k1 = 4
  · exact .inl h4
  · unfold blkR at hr
    rw [if_neg h4] at hr
    simp only [Bool.and_eq_true, decide_eq_true_eq] at hr
    unfold I64 at hI
    exact .inr ⟨hr.2.1.1, hr.2.1.2, hr.2.2.2.1, hI.2⟩
set_option maxRecDepth 100000 in
set_option maxHeartbeats 8000000 in
theorem TensTells_a (u v : Value) (k z m o n : Int) (bs : List Bk) (k' z' m' o' n' : Int) (bs' : List Bk) (w : World) (hu : IsSt w u (k, z, m, o, n, bs)) (hv : IsSt w v (k', z', m', o', n', bs')) (hin : ∀ b ∈ bs, BkIn b) (hin' : ∀ b ∈ bs', BkIn b) (hf : fewS bs = false) :
    Calls Tryz.prog 3 #[u, v] w fun e w' => e = .returned (.bool true) ∧ Below w.heap.size w w' := by
  have hL := fun w => alive14_any w
  have hF1 := fun v w h => rfew14_any v (k, z, m, o, n, bs) w h hin
  have hF2 := fun v w h => rfew14_any v (k', z', m', o', n', bs') w h hin'
  simp only at hF1 hF2
  rw [hf] at hF1
  obtain ⟨x, rfl, hx⟩ := hu
  obtain ⟨y, rfl, hy⟩ := hv
  simp only at hx hy ⊢
  obtain ⟨A, c, rfl, _, _⟩ := hx.len
  obtain ⟨A', c', rfl, _, _⟩ := hy.len
  obtain ⟨W0, hW, hT, hB⟩ := box2 w 26 26 #[.int .i64 k, .int .i64 z, .int .i64 m, .int .i64 o, .int .i64 n, .slice A bs.length c] #[.int .i64 k', .int .i64 z', .int .i64 m', .int .i64 o', .int .i64 n', .slice A' bs'.length c']
  obtain ⟨g, hg⟩ : ∃ g, g = w.heap.size := ⟨_, rfl⟩
  have hW' := Lib.hid (And.intro hW hg)
  rw [← hg] at hT
  have hgw : w.heap.size ≤ g := by omega
  clear hW hg
  obtain ⟨hX, hY⟩ := hT
  replace hx := hx.below hB
  replace hy := hy.below hB
  obtain ⟨c1_hX_0, c1_hX_1, c1_hX_2, c1_hX_3, c1_hX_4, c1_hX_5⟩ := hX.cells6
  obtain ⟨c1_hY_0, c1_hY_1, c1_hY_2, c1_hY_3, c1_hY_4, c1_hY_5⟩ := hY.cells6
  go_enter Tryz.func3, Tryz.ntmps3
  go_wp2_with fail
  rw [← hW'.out.1, ← hW'.out.2]
  refine (hF1 _ _ ⟨_, rfl, hx⟩).mono ?_
  rintro e w1 ⟨rfl, b1⟩
  replace hx := hx.below b1
  replace hy := hy.below b1
  replace hX := hX.below b1 hX.lt
  replace hY := hY.below b1 hY.lt
  replace hB := hB.trans (b1.mono hB.size)
  clear c1_hX_0 c1_hX_1 c1_hX_2 c1_hX_3 c1_hX_4 c1_hX_5 c1_hY_0 c1_hY_1 c1_hY_2 c1_hY_3 c1_hY_4 c1_hY_5
  obtain ⟨c2_hX_0, c2_hX_1, c2_hX_2, c2_hX_3, c2_hX_4, c2_hX_5⟩ := hX.cells6
  obtain ⟨c2_hY_0, c2_hY_1, c2_hY_2, c2_hY_3, c2_hY_4, c2_hY_5⟩ := hY.cells6
  go_wp2_with fail
  refine (hL _).mono ?_
  rintro e w2 ⟨rfl, b2⟩
  replace hx := hx.below b2
  replace hy := hy.below b2
  replace hX := hX.below b2 hX.lt
  replace hY := hY.below b2 hY.lt
  replace hB := hB.trans (b2.mono hB.size)
  clear c2_hX_0 c2_hX_1 c2_hX_2 c2_hX_3 c2_hX_4 c2_hX_5 c2_hY_0 c2_hY_1 c2_hY_2 c2_hY_3 c2_hY_4 c2_hY_5
  obtain ⟨c3_hX_0, c3_hX_1, c3_hX_2, c3_hX_3, c3_hX_4, c3_hX_5⟩ := hX.cells6
  obtain ⟨c3_hY_0, c3_hY_1, c3_hY_2, c3_hY_3, c3_hY_4, c3_hY_5⟩ := hY.cells6
  go_wp2
  go_ret
  exact ⟨rfl, hB⟩
set_option maxRecDepth 100000 in
set_option maxHeartbeats 8000000 in
theorem TensTells_b (u v : Value) (k z m o n : Int) (bs : List Bk) (k' z' m' o' n' : Int) (bs' : List Bk) (w : World) (hu : IsSt w u (k, z, m, o, n, bs)) (hv : IsSt w v (k', z', m', o', n', bs')) (hin : ∀ b ∈ bs, BkIn b) (hin' : ∀ b ∈ bs', BkIn b) (hf : fewS bs = true) (hf' : fewS bs' = false) :
    Calls Tryz.prog 3 #[u, v] w fun e w' => e = .returned (.bool true) ∧ Below w.heap.size w w' := by
  have hL := fun w => alive14_any w
  have hF1 := fun v w h => rfew14_any v (k, z, m, o, n, bs) w h hin
  have hF2 := fun v w h => rfew14_any v (k', z', m', o', n', bs') w h hin'
  simp only at hF1 hF2
  rw [hf] at hF1
  rw [hf'] at hF2
  obtain ⟨x, rfl, hx⟩ := hu
  obtain ⟨y, rfl, hy⟩ := hv
  simp only at hx hy ⊢
  obtain ⟨A, c, rfl, _, _⟩ := hx.len
  obtain ⟨A', c', rfl, _, _⟩ := hy.len
  obtain ⟨W0, hW, hT, hB⟩ := box2 w 26 26 #[.int .i64 k, .int .i64 z, .int .i64 m, .int .i64 o, .int .i64 n, .slice A bs.length c] #[.int .i64 k', .int .i64 z', .int .i64 m', .int .i64 o', .int .i64 n', .slice A' bs'.length c']
  obtain ⟨g, hg⟩ : ∃ g, g = w.heap.size := ⟨_, rfl⟩
  have hW' := Lib.hid (And.intro hW hg)
  rw [← hg] at hT
  have hgw : w.heap.size ≤ g := by omega
  clear hW hg
  obtain ⟨hX, hY⟩ := hT
  replace hx := hx.below hB
  replace hy := hy.below hB
  obtain ⟨c1_hX_0, c1_hX_1, c1_hX_2, c1_hX_3, c1_hX_4, c1_hX_5⟩ := hX.cells6
  obtain ⟨c1_hY_0, c1_hY_1, c1_hY_2, c1_hY_3, c1_hY_4, c1_hY_5⟩ := hY.cells6
  go_enter Tryz.func3, Tryz.ntmps3
  go_wp2_with fail
  rw [← hW'.out.1, ← hW'.out.2]
  refine (hF1 _ _ ⟨_, rfl, hx⟩).mono ?_
  rintro e w1 ⟨rfl, b1⟩
  replace hx := hx.below b1
  replace hy := hy.below b1
  replace hX := hX.below b1 hX.lt
  replace hY := hY.below b1 hY.lt
  replace hB := hB.trans (b1.mono hB.size)
  clear c1_hX_0 c1_hX_1 c1_hX_2 c1_hX_3 c1_hX_4 c1_hX_5 c1_hY_0 c1_hY_1 c1_hY_2 c1_hY_3 c1_hY_4 c1_hY_5
  obtain ⟨c2_hX_0, c2_hX_1, c2_hX_2, c2_hX_3, c2_hX_4, c2_hX_5⟩ := hX.cells6
  obtain ⟨c2_hY_0, c2_hY_1, c2_hY_2, c2_hY_3, c2_hY_4, c2_hY_5⟩ := hY.cells6
  go_wp2_with fail
  refine (hF2 _ _ ⟨_, rfl, hy⟩).mono ?_
  rintro e w2 ⟨rfl, b2⟩
  replace hx := hx.below b2
  replace hy := hy.below b2
  replace hX := hX.below b2 hX.lt
  replace hY := hY.below b2 hY.lt
  replace hB := hB.trans (b2.mono hB.size)
  clear c2_hX_0 c2_hX_1 c2_hX_2 c2_hX_3 c2_hX_4 c2_hX_5 c2_hY_0 c2_hY_1 c2_hY_2 c2_hY_3 c2_hY_4 c2_hY_5
  obtain ⟨c3_hX_0, c3_hX_1, c3_hX_2, c3_hX_3, c3_hX_4, c3_hX_5⟩ := hX.cells6
  obtain ⟨c3_hY_0, c3_hY_1, c3_hY_2, c3_hY_3, c3_hY_4, c3_hY_5⟩ := hY.cells6
  go_wp2_with fail
  refine (hL _).mono ?_
  rintro e w3 ⟨rfl, b3⟩
  replace hx := hx.below b3
  replace hy := hy.below b3
  replace hX := hX.below b3 hX.lt
  replace hY := hY.below b3 hY.lt
  replace hB := hB.trans (b3.mono hB.size)
  clear c3_hX_0 c3_hX_1 c3_hX_2 c3_hX_3 c3_hX_4 c3_hX_5 c3_hY_0 c3_hY_1 c3_hY_2 c3_hY_3 c3_hY_4 c3_hY_5
  obtain ⟨c4_hX_0, c4_hX_1, c4_hX_2, c4_hX_3, c4_hX_4, c4_hX_5⟩ := hX.cells6
  obtain ⟨c4_hY_0, c4_hY_1, c4_hY_2, c4_hY_3, c4_hY_4, c4_hY_5⟩ := hY.cells6
  go_wp2
  go_ret
  exact ⟨rfl, hB⟩
set_option maxRecDepth 100000 in
set_option maxHeartbeats 8000000 in
theorem TensTells_ok (u v : Value) (k z m o n : Int) (bs : List Bk) (k' z' m' o' n' : Int) (bs' : List Bk) (w : World) (hu : IsSt w u (k, z, m, o, n, bs)) (hv : IsSt w v (k', z', m', o', n', bs')) (hin : ∀ b ∈ bs, BkIn b) (hin' : ∀ b ∈ bs', BkIn b) (hf : fewS bs = true) (hf' : fewS bs' = true) :
    Calls Tryz.prog 3 #[u, v] w fun e w' => e = .returned (.bool true) ∧ Below w.heap.size w w' := by
  have hL := fun w => alive14_any w
  have hF1 := fun v w h => rfew14_any v (k, z, m, o, n, bs) w h hin
  have hF2 := fun v w h => rfew14_any v (k', z', m', o', n', bs') w h hin'
  simp only at hF1 hF2
  have ff := few_facts hf
  have hM1 := fun w => tmay_any k z m o w
  have hM2 := fun w => rmay14_any k z m o w
  have hR1 := fun v w h => tright_any v (k, z, m, o, n, bs) w h (long_facts hin)
  have hR2 := fun v w h => rright14_any v (k, z, m, o, n, bs) w h hin
  have hS1 := fun u v w h h' => tsame_any u v (k, z, m, o, n, bs) (k', z', m', o', n', bs') w h h'
  have hS2 := fun u v w h h' => rsame14_any u v (k, z, m, o, n, bs) (k', z', m', o', n', bs') w h h'
  have hC1 := fun v w h => tcost_any v (k, z, m, o, n, bs) w h ff
  have hC2 := fun v w h => rcost14_any v (k, z, m, o, n, bs) w h ff
  have hSL := fun u v w h h' => (same_any u v (loadS bs) (loadS bs) w h h').mono (fun e w' k => (⟨k.1.trans (by simp), k.2⟩ : e = .returned (.bool true) ∧ ∃ n, w' = w.drewN n))
  have HLD := Lib.hid (fun hr : rightS (k, z, m, o, n, bs) = true => And.intro (fun v w h => tload_any v (k, z, m, o, n, bs) w h ff (right_load hr hin)) (fun v w h => rload14_any v (k, z, m, o, n, bs) w h ff (right_load hr hin)))
  simp only at hC1 hC2
  rw [hf] at hF1
  rw [hf'] at hF2
  generalize rightS (k, z, m, o, n, bs) = r at *
  generalize eqS (k, z, m, o, n, bs) (k', z', m', o', n', bs') = qs at *
  generalize mayB k z m o = my at *
  generalize costS bs = cc at *
  have b1_ : (my != my) = false := by simp
  have b2_ : (r != r) = false := by simp
  have b3_ : (qs != qs) = false := by simp
  have b4_ : (cc != cc) = false := by simp
  clear ff hf hf'
  obtain ⟨x, rfl, hx⟩ := hu
  obtain ⟨y, rfl, hy⟩ := hv
  simp only at hx hy ⊢
  obtain ⟨A, c, rfl, _, _⟩ := hx.len
  obtain ⟨A', c', rfl, _, _⟩ := hy.len
  obtain ⟨W0, hW, hT, hB⟩ := box2 w 26 26 #[.int .i64 k, .int .i64 z, .int .i64 m, .int .i64 o, .int .i64 n, .slice A bs.length c] #[.int .i64 k', .int .i64 z', .int .i64 m', .int .i64 o', .int .i64 n', .slice A' bs'.length c']
  obtain ⟨g, hg⟩ : ∃ g, g = w.heap.size := ⟨_, rfl⟩
  have hW' := Lib.hid (And.intro hW hg)
  rw [← hg] at hT
  have hgw : w.heap.size ≤ g := by omega
  clear hW hg
  obtain ⟨hX, hY⟩ := hT
  replace hx := hx.below hB
  replace hy := hy.below hB
  obtain ⟨c1_hX_0, c1_hX_1, c1_hX_2, c1_hX_3, c1_hX_4, c1_hX_5⟩ := hX.cells6
  obtain ⟨c1_hY_0, c1_hY_1, c1_hY_2, c1_hY_3, c1_hY_4, c1_hY_5⟩ := hY.cells6
  go_enter Tryz.func3, Tryz.ntmps3
  go_wp2_with fail
  rw [← hW'.out.1, ← hW'.out.2]
  refine (hF1 _ _ ⟨_, rfl, hx⟩).mono ?_
  rintro e w1 ⟨rfl, b1⟩
  replace hx := hx.below b1
  replace hy := hy.below b1
  replace hX := hX.below b1 hX.lt
  replace hY := hY.below b1 hY.lt
  replace hB := hB.trans (b1.mono hB.size)
  clear c1_hX_0 c1_hX_1 c1_hX_2 c1_hX_3 c1_hX_4 c1_hX_5 c1_hY_0 c1_hY_1 c1_hY_2 c1_hY_3 c1_hY_4 c1_hY_5
  obtain ⟨c2_hX_0, c2_hX_1, c2_hX_2, c2_hX_3, c2_hX_4, c2_hX_5⟩ := hX.cells6
  obtain ⟨c2_hY_0, c2_hY_1, c2_hY_2, c2_hY_3, c2_hY_4, c2_hY_5⟩ := hY.cells6
  go_wp2_with fail
  refine (hF2 _ _ ⟨_, rfl, hy⟩).mono ?_
  rintro e w2 ⟨rfl, b2⟩
  replace hx := hx.below b2
  replace hy := hy.below b2
  replace hX := hX.below b2 hX.lt
  replace hY := hY.below b2 hY.lt
  replace hB := hB.trans (b2.mono hB.size)
  clear c2_hX_0 c2_hX_1 c2_hX_2 c2_hX_3 c2_hX_4 c2_hX_5 c2_hY_0 c2_hY_1 c2_hY_2 c2_hY_3 c2_hY_4 c2_hY_5
  obtain ⟨c3_hX_0, c3_hX_1, c3_hX_2, c3_hX_3, c3_hX_4, c3_hX_5⟩ := hX.cells6
  obtain ⟨c3_hY_0, c3_hY_1, c3_hY_2, c3_hY_3, c3_hY_4, c3_hY_5⟩ := hY.cells6
  go_wp2_with fail
  refine (hR2 _ _ ⟨_, rfl, hx⟩).mono ?_
  rintro e w3 ⟨rfl, b3⟩
  replace hx := hx.below b3
  replace hy := hy.below b3
  replace hX := hX.below b3 hX.lt
  replace hY := hY.below b3 hY.lt
  replace hB := hB.trans (b3.mono hB.size)
  clear c3_hX_0 c3_hX_1 c3_hX_2 c3_hX_3 c3_hX_4 c3_hX_5 c3_hY_0 c3_hY_1 c3_hY_2 c3_hY_3 c3_hY_4 c3_hY_5
  obtain ⟨c4_hX_0, c4_hX_1, c4_hX_2, c4_hX_3, c4_hX_4, c4_hX_5⟩ := hX.cells6
  obtain ⟨c4_hY_0, c4_hY_1, c4_hY_2, c4_hY_3, c4_hY_4, c4_hY_5⟩ := hY.cells6
  go_upto_region 4 with fail
  refine wp_region_noPanic ?_
  refine wp_region_held_drew (S := fun w' => w'.cell? ⟨g, 0, none⟩ = some (.int .i64 k) ∧ w'.cell? ⟨g, 1, none⟩ = some (.int .i64 z) ∧ w'.cell? ⟨g, 2, none⟩ = some (.int .i64 m) ∧ w'.cell? ⟨g, 3, none⟩ = some (.int .i64 o) ∧ w'.cell? ⟨g, 4, none⟩ = some (.int .i64 n) ∧ w'.cell? ⟨g, 5, none⟩ = some (.slice A bs.length c) ∧ w'.cell? ⟨g + 1, 0, none⟩ = some (.int .i64 k') ∧ w'.cell? ⟨g + 1, 1, none⟩ = some (.int .i64 z') ∧ w'.cell? ⟨g + 1, 2, none⟩ = some (.int .i64 m') ∧ w'.cell? ⟨g + 1, 3, none⟩ = some (.int .i64 o') ∧ w'.cell? ⟨g + 1, 4, none⟩ = some (.int .i64 n') ∧ w'.cell? ⟨g + 1, 5, none⟩ = some (.slice A' bs'.length c')) (by kernel_rfl) ?_ (fun hHeld => ?_)
  · exact ⟨(hX.below (by first | assumption | exact bdrew _) hX.lt).cell 0, (hX.below (by first | assumption | exact bdrew _) hX.lt).cell 1, (hX.below (by first | assumption | exact bdrew _) hX.lt).cell 2, (hX.below (by first | assumption | exact bdrew _) hX.lt).cell 3, (hX.below (by first | assumption | exact bdrew _) hX.lt).cell 4, (hX.below (by first | assumption | exact bdrew _) hX.lt).cell 5, (hY.below (by first | assumption | exact bdrew _) hY.lt).cell 0, (hY.below (by first | assumption | exact bdrew _) hY.lt).cell 1, (hY.below (by first | assumption | exact bdrew _) hY.lt).cell 2, (hY.below (by first | assumption | exact bdrew _) hY.lt).cell 3, (hY.below (by first | assumption | exact bdrew _) hY.lt).cell 4, (hY.below (by first | assumption | exact bdrew _) hY.lt).cell 5⟩
  refine wpAnyH_take (i := 0) (v := ?b1_v0) rfl (by kernel_rfl) (by kernel_rfl) (by kernel_rfl) (fun _ _ _ h => h) (Or.inl ⟨by kernel_rfl, ?b1_hy0⟩) (by assumption) ?b1_rest0
  case b1_hy0 => (intro w hSw; (try dsimp only at hSw); go_simp; try (with_reducible rfl))
  try simp only [Act.put, lay1, lay2, lay3, lay4, lay5, lay6]
  refine wpAnyH_take (i := 1) (v := ?b1_v1) rfl (by kernel_rfl) (by kernel_rfl) (by kernel_rfl) (fun _ _ _ h => h) (Or.inl ⟨by kernel_rfl, ?b1_hy1⟩) (by assumption) ?b1_rest1
  case b1_hy1 => (intro w hSw; (try dsimp only at hSw); go_simp; try (with_reducible rfl))
  try simp only [Act.put, lay1, lay2, lay3, lay4, lay5, lay6]
  refine wpAnyH_take (i := 3) (v := ?b1_v3) rfl (by kernel_rfl) (by kernel_rfl) (by kernel_rfl) (fun _ _ _ h => h) (Or.inl ⟨by kernel_rfl, ?b1_hy3⟩) (by assumption) ?b1_rest3
  case b1_hy3 => (intro w hSw; (try dsimp only at hSw); go_simp; try (with_reducible rfl))
  try simp only [Act.put, lay1, lay2, lay3, lay4, lay5, lay6]
  refine wpAnyH_take (i := 4) (v := ?b1_v4) rfl (by kernel_rfl) (by kernel_rfl) (by kernel_rfl) (fun _ _ _ h => h) (Or.inl ⟨by kernel_rfl, ?b1_hy4⟩) (by assumption) ?b1_rest4
  case b1_hy4 => (intro w hSw; (try dsimp only at hSw); go_simp; try (with_reducible rfl))
  try simp only [Act.put, lay1, lay2, lay3, lay4, lay5, lay6]
  refine wpAnyH_ready (rs := [2]) (by kernel_rfl) (by simp) ?_
  refine AllReadyH.cons rfl (fun K hK => ?_) AllReadyH.nil
  go_simp
  refine (hM1 _).mono ?_
  rintro e v1 ⟨rfl, d1⟩
  have d1 := bstep (bdrew w3) d1
  go_wp2_with fail
  refine hK.out _ _ ?_ (fun hHeld => ?_)
  · exact ⟨(hX.below (by first | assumption | exact bdrew _) hX.lt).cell 0, (hX.below (by first | assumption | exact bdrew _) hX.lt).cell 1, (hX.below (by first | assumption | exact bdrew _) hX.lt).cell 2, (hX.below (by first | assumption | exact bdrew _) hX.lt).cell 3, (hX.below (by first | assumption | exact bdrew _) hX.lt).cell 4, (hX.below (by first | assumption | exact bdrew _) hX.lt).cell 5, (hY.below (by first | assumption | exact bdrew _) hY.lt).cell 0, (hY.below (by first | assumption | exact bdrew _) hY.lt).cell 1, (hY.below (by first | assumption | exact bdrew _) hY.lt).cell 2, (hY.below (by first | assumption | exact bdrew _) hY.lt).cell 3, (hY.below (by first | assumption | exact bdrew _) hY.lt).cell 4, (hY.below (by first | assumption | exact bdrew _) hY.lt).cell 5⟩
  clear hK K
  try simp only [Act.put, lay1, lay2, lay3, lay4, lay5, lay6]
  refine wpAnyH_ready (rs := [5]) (by kernel_rfl) (by simp) ?_
  refine AllReadyH.cons rfl (fun K hK => ?_) AllReadyH.nil
  go_simp
  refine (hM2 _).mono ?_
  rintro e v2 ⟨rfl, d2⟩
  have d2 := bstep d1 d2
  go_wp2_with fail
  refine hK.out _ _ ?_ (fun hHeld => ?_)
  · exact ⟨(hX.below (by first | assumption | exact bdrew _) hX.lt).cell 0, (hX.below (by first | assumption | exact bdrew _) hX.lt).cell 1, (hX.below (by first | assumption | exact bdrew _) hX.lt).cell 2, (hX.below (by first | assumption | exact bdrew _) hX.lt).cell 3, (hX.below (by first | assumption | exact bdrew _) hX.lt).cell 4, (hX.below (by first | assumption | exact bdrew _) hX.lt).cell 5, (hY.below (by first | assumption | exact bdrew _) hY.lt).cell 0, (hY.below (by first | assumption | exact bdrew _) hY.lt).cell 1, (hY.below (by first | assumption | exact bdrew _) hY.lt).cell 2, (hY.below (by first | assumption | exact bdrew _) hY.lt).cell 3, (hY.below (by first | assumption | exact bdrew _) hY.lt).cell 4, (hY.below (by first | assumption | exact bdrew _) hY.lt).cell 5⟩
  clear hK K
  try simp only [Act.put, lay1, lay2, lay3, lay4, lay5, lay6]
  refine wpAnyH_take (i := 6) (v := ?b1_v6) rfl (by kernel_rfl) (by kernel_rfl) (by kernel_rfl) (fun _ _ _ h => h) (Or.inl ⟨by kernel_rfl, ?b1_hy6⟩) (by assumption) ?b1_rest6
  case b1_hy6 => (intro w hSw; (try dsimp only at hSw); go_simp; try (with_reducible rfl))
  try simp only [Act.put, lay1, lay2, lay3, lay4, lay5, lay6]
  refine wpAnyH_take (i := 7) (v := ?b1_v7) rfl (by kernel_rfl) (by kernel_rfl) (by kernel_rfl) (fun _ _ _ h => h) (Or.inl ⟨by kernel_rfl, ?b1_hy7⟩) (by assumption) ?b1_rest7
  case b1_hy7 => (intro w hSw; (try dsimp only at hSw); go_simp; try (with_reducible rfl))
  try simp only [Act.put, lay1, lay2, lay3, lay4, lay5, lay6]
  refine wpAnyH_take (i := 8) (v := ?b1_v8) rfl (by kernel_rfl) (by kernel_rfl) (by kernel_rfl) (fun _ _ _ h => h) (Or.inl ⟨by kernel_rfl, ?b1_hy8⟩) (by assumption) ?b1_rest8
  case b1_hy8 => (intro w hSw; (try dsimp only at hSw); go_simp; try (with_reducible rfl))
  try simp only [Act.put, lay1, lay2, lay3, lay4, lay5, lay6]
  refine wpAnyH_take (i := 10) (v := ?b1_v10) rfl (by kernel_rfl) (by kernel_rfl) (by kernel_rfl) (fun _ _ _ h => h) (Or.inl ⟨by kernel_rfl, ?b1_hy10⟩) (by assumption) ?b1_rest10
  case b1_hy10 => (intro w hSw; (try dsimp only at hSw); go_simp; try (with_reducible rfl))
  try simp only [Act.put, lay1, lay2, lay3, lay4, lay5, lay6]
  refine wpAnyH_ready (rs := [9]) (by kernel_rfl) (by simp) ?_
  refine AllReadyH.cons rfl (fun K hK => ?_) AllReadyH.nil
  go_simp
  refine (hR1 _ _ ⟨_, rfl, hx.below d2⟩).mono ?_
  rintro e v3 ⟨rfl, d3⟩
  have d3 := bstep d2 d3
  go_wp2_with fail
  refine hK.out _ _ ?_ (fun hHeld => ?_)
  · exact ⟨(hX.below (by first | assumption | exact bdrew _) hX.lt).cell 0, (hX.below (by first | assumption | exact bdrew _) hX.lt).cell 1, (hX.below (by first | assumption | exact bdrew _) hX.lt).cell 2, (hX.below (by first | assumption | exact bdrew _) hX.lt).cell 3, (hX.below (by first | assumption | exact bdrew _) hX.lt).cell 4, (hX.below (by first | assumption | exact bdrew _) hX.lt).cell 5, (hY.below (by first | assumption | exact bdrew _) hY.lt).cell 0, (hY.below (by first | assumption | exact bdrew _) hY.lt).cell 1, (hY.below (by first | assumption | exact bdrew _) hY.lt).cell 2, (hY.below (by first | assumption | exact bdrew _) hY.lt).cell 3, (hY.below (by first | assumption | exact bdrew _) hY.lt).cell 4, (hY.below (by first | assumption | exact bdrew _) hY.lt).cell 5⟩
  clear hK K
  try simp only [Act.put, lay1, lay2, lay3, lay4, lay5, lay6]
  refine wpAnyH_take (i := 11) (v := ?b1_v11) rfl (by kernel_rfl) (by kernel_rfl) (by kernel_rfl) (fun _ _ _ h => h) (Or.inl ⟨by kernel_rfl, ?b1_hy11⟩) (by assumption) ?b1_rest11
  case b1_hy11 => (intro w hSw; (try dsimp only at hSw); go_simp; try (with_reducible rfl))
  try simp only [Act.put, lay1, lay2, lay3, lay4, lay5, lay6]
  refine wpAnyH_take (i := 12) (v := ?b1_v12) rfl (by kernel_rfl) (by kernel_rfl) (by kernel_rfl) (fun _ _ _ h => h) (Or.inl ⟨by kernel_rfl, ?b1_hy12⟩) (by assumption) ?b1_rest12
  case b1_hy12 => (intro w hSw; (try dsimp only at hSw); go_simp; try (with_reducible rfl))
  try simp only [Act.put, lay1, lay2, lay3, lay4, lay5, lay6]
  refine wpAnyH_take (i := 13) (v := ?b1_v13) rfl (by kernel_rfl) (by kernel_rfl) (by kernel_rfl) (fun _ _ _ h => h) (Or.inl ⟨by kernel_rfl, ?b1_hy13⟩) (by assumption) ?b1_rest13
  case b1_hy13 => (intro w hSw; (try dsimp only at hSw); go_simp; try (with_reducible rfl))
  try simp only [Act.put, lay1, lay2, lay3, lay4, lay5, lay6]
  refine wpAnyH_take (i := 14) (v := ?b1_v14) rfl (by kernel_rfl) (by kernel_rfl) (by kernel_rfl) (fun _ _ _ h => h) (Or.inl ⟨by kernel_rfl, ?b1_hy14⟩) (by assumption) ?b1_rest14
  case b1_hy14 => (intro w hSw; (try dsimp only at hSw); go_simp; try (with_reducible rfl))
  try simp only [Act.put, lay1, lay2, lay3, lay4, lay5, lay6]
  refine wpAnyH_take (i := 15) (v := ?b1_v15) rfl (by kernel_rfl) (by kernel_rfl) (by kernel_rfl) (fun _ _ _ h => h) (Or.inl ⟨by kernel_rfl, ?b1_hy15⟩) (by assumption) ?b1_rest15
  case b1_hy15 => (intro w hSw; (try dsimp only at hSw); go_simp; try (with_reducible rfl))
  try simp only [Act.put, lay1, lay2, lay3, lay4, lay5, lay6]
  refine wpAnyH_take (i := 17) (v := ?b1_v17) rfl (by kernel_rfl) (by kernel_rfl) (by kernel_rfl) (fun _ _ _ h => h) (Or.inl ⟨by kernel_rfl, ?b1_hy17⟩) (by assumption) ?b1_rest17
  case b1_hy17 => (intro w hSw; (try dsimp only at hSw); go_simp; try (with_reducible rfl))
  try simp only [Act.put, lay1, lay2, lay3, lay4, lay5, lay6]
  refine wpAnyH_take (i := 18) (v := ?b1_v18) rfl (by kernel_rfl) (by kernel_rfl) (by kernel_rfl) (fun _ _ _ h => h) (Or.inl ⟨by kernel_rfl, ?b1_hy18⟩) (by assumption) ?b1_rest18
  case b1_hy18 => (intro w hSw; (try dsimp only at hSw); go_simp; try (with_reducible rfl))
  try simp only [Act.put, lay1, lay2, lay3, lay4, lay5, lay6]
  refine wpAnyH_ready (rs := [16]) (by kernel_rfl) (by simp) ?_
  refine AllReadyH.cons rfl (fun K hK => ?_) AllReadyH.nil
  go_simp
  refine (hS1 _ _ _ ⟨_, rfl, hx.below d3⟩ ⟨_, rfl, hy.below d3⟩).mono ?_
  rintro e v4 ⟨rfl, d4⟩
  have d4 := bstep d3 d4
  go_wp2_with fail
  refine hK.out _ _ ?_ (fun hHeld => ?_)
  · exact ⟨(hX.below (by first | assumption | exact bdrew _) hX.lt).cell 0, (hX.below (by first | assumption | exact bdrew _) hX.lt).cell 1, (hX.below (by first | assumption | exact bdrew _) hX.lt).cell 2, (hX.below (by first | assumption | exact bdrew _) hX.lt).cell 3, (hX.below (by first | assumption | exact bdrew _) hX.lt).cell 4, (hX.below (by first | assumption | exact bdrew _) hX.lt).cell 5, (hY.below (by first | assumption | exact bdrew _) hY.lt).cell 0, (hY.below (by first | assumption | exact bdrew _) hY.lt).cell 1, (hY.below (by first | assumption | exact bdrew _) hY.lt).cell 2, (hY.below (by first | assumption | exact bdrew _) hY.lt).cell 3, (hY.below (by first | assumption | exact bdrew _) hY.lt).cell 4, (hY.below (by first | assumption | exact bdrew _) hY.lt).cell 5⟩
  clear hK K
  try simp only [Act.put, lay1, lay2, lay3, lay4, lay5, lay6]
  refine wpAnyH_ready (rs := [19]) (by kernel_rfl) (by simp) ?_
  refine AllReadyH.cons rfl (fun K hK => ?_) AllReadyH.nil
  go_simp
  refine (hS2 _ _ _ ⟨_, rfl, hx.below d4⟩ ⟨_, rfl, hy.below d4⟩).mono ?_
  rintro e v5 ⟨rfl, d5⟩
  have d5 := bstep d4 d5
  go_wp2_with fail
  refine hK.out _ _ ?_ (fun hHeld => ?_)
  · exact ⟨(hX.below (by first | assumption | exact bdrew _) hX.lt).cell 0, (hX.below (by first | assumption | exact bdrew _) hX.lt).cell 1, (hX.below (by first | assumption | exact bdrew _) hX.lt).cell 2, (hX.below (by first | assumption | exact bdrew _) hX.lt).cell 3, (hX.below (by first | assumption | exact bdrew _) hX.lt).cell 4, (hX.below (by first | assumption | exact bdrew _) hX.lt).cell 5, (hY.below (by first | assumption | exact bdrew _) hY.lt).cell 0, (hY.below (by first | assumption | exact bdrew _) hY.lt).cell 1, (hY.below (by first | assumption | exact bdrew _) hY.lt).cell 2, (hY.below (by first | assumption | exact bdrew _) hY.lt).cell 3, (hY.below (by first | assumption | exact bdrew _) hY.lt).cell 4, (hY.below (by first | assumption | exact bdrew _) hY.lt).cell 5⟩
  clear hK K
  try simp only [Act.put, lay1, lay2, lay3, lay4, lay5, lay6]
  refine wpAnyH_take (i := 20) (v := ?b1_v20) rfl (by kernel_rfl) (by kernel_rfl) (by kernel_rfl) (fun _ _ _ h => h) (Or.inl ⟨by kernel_rfl, ?b1_hy20⟩) (by assumption) ?b1_rest20
  case b1_hy20 => (intro w hSw; (try dsimp only at hSw); go_simp; try (with_reducible rfl))
  try simp only [Act.put, lay1, lay2, lay3, lay4, lay5, lay6]
  refine wpAnyH_take (i := 21) (v := ?b1_v21) rfl (by kernel_rfl) (by kernel_rfl) (by kernel_rfl) (fun _ _ _ h => h) (Or.inl ⟨by kernel_rfl, ?b1_hy21⟩) (by assumption) ?b1_rest21
  case b1_hy21 => (intro w hSw; (try dsimp only at hSw); go_simp; try (with_reducible rfl))
  try simp only [Act.put, lay1, lay2, lay3, lay4, lay5, lay6]
  refine wpAnyH_take (i := 22) (v := ?b1_v22) rfl (by kernel_rfl) (by kernel_rfl) (by kernel_rfl) (fun _ _ _ h => h) (Or.inl ⟨by kernel_rfl, ?b1_hy22⟩) (by assumption) ?b1_rest22
  case b1_hy22 => (intro w hSw; (try dsimp only at hSw); go_simp; try (with_reducible rfl))
  try simp only [Act.put, lay1, lay2, lay3, lay4, lay5, lay6]
  refine wpAnyH_take (i := 23) (v := ?b1_v23) rfl (by kernel_rfl) (by kernel_rfl) (by kernel_rfl) (fun _ _ _ h => h) (Or.inl ⟨by kernel_rfl, ?b1_hy23⟩) (by assumption) ?b1_rest23
  case b1_hy23 => (intro w hSw; (try dsimp only at hSw); go_simp; try (with_reducible rfl))
  try simp only [Act.put, lay1, lay2, lay3, lay4, lay5, lay6]
  refine wpAnyH_take (i := 25) (v := ?b1_v25) rfl (by kernel_rfl) (by kernel_rfl) (by kernel_rfl) (fun _ _ _ h => h) (Or.inl ⟨by kernel_rfl, ?b1_hy25⟩) (by assumption) ?b1_rest25
  case b1_hy25 => (intro w hSw; (try dsimp only at hSw); go_simp; try (with_reducible rfl))
  try simp only [Act.put, lay1, lay2, lay3, lay4, lay5, lay6]
  refine wpAnyH_ready (rs := [24]) (by kernel_rfl) (by simp) ?_
  refine AllReadyH.cons rfl (fun K hK => ?_) AllReadyH.nil
  go_simp
  refine (hC1 _ _ ⟨_, rfl, hx.below d5⟩).mono ?_
  rintro e v6 ⟨rfl, d6⟩
  have d6 := bstep d5 d6
  go_wp2_with fail
  refine hK.out _ _ ?_ (fun hHeld => ?_)
  · exact ⟨(hX.below (by first | assumption | exact bdrew _) hX.lt).cell 0, (hX.below (by first | assumption | exact bdrew _) hX.lt).cell 1, (hX.below (by first | assumption | exact bdrew _) hX.lt).cell 2, (hX.below (by first | assumption | exact bdrew _) hX.lt).cell 3, (hX.below (by first | assumption | exact bdrew _) hX.lt).cell 4, (hX.below (by first | assumption | exact bdrew _) hX.lt).cell 5, (hY.below (by first | assumption | exact bdrew _) hY.lt).cell 0, (hY.below (by first | assumption | exact bdrew _) hY.lt).cell 1, (hY.below (by first | assumption | exact bdrew _) hY.lt).cell 2, (hY.below (by first | assumption | exact bdrew _) hY.lt).cell 3, (hY.below (by first | assumption | exact bdrew _) hY.lt).cell 4, (hY.below (by first | assumption | exact bdrew _) hY.lt).cell 5⟩
  clear hK K
  try simp only [Act.put, lay1, lay2, lay3, lay4, lay5, lay6]
  refine wpAnyH_ready (rs := [26]) (by kernel_rfl) (by simp) ?_
  refine AllReadyH.cons rfl (fun K hK => ?_) AllReadyH.nil
  go_simp
  refine (hC2 _ _ ⟨_, rfl, hx.below d6⟩).mono ?_
  rintro e v7 ⟨rfl, d7⟩
  have d7 := bstep d6 d7
  go_wp2_with fail
  refine hK.out _ _ ?_ (fun hHeld => ?_)
  · exact ⟨(hX.below (by first | assumption | exact bdrew _) hX.lt).cell 0, (hX.below (by first | assumption | exact bdrew _) hX.lt).cell 1, (hX.below (by first | assumption | exact bdrew _) hX.lt).cell 2, (hX.below (by first | assumption | exact bdrew _) hX.lt).cell 3, (hX.below (by first | assumption | exact bdrew _) hX.lt).cell 4, (hX.below (by first | assumption | exact bdrew _) hX.lt).cell 5, (hY.below (by first | assumption | exact bdrew _) hY.lt).cell 0, (hY.below (by first | assumption | exact bdrew _) hY.lt).cell 1, (hY.below (by first | assumption | exact bdrew _) hY.lt).cell 2, (hY.below (by first | assumption | exact bdrew _) hY.lt).cell 3, (hY.below (by first | assumption | exact bdrew _) hY.lt).cell 4, (hY.below (by first | assumption | exact bdrew _) hY.lt).cell 5⟩
  clear hK K
  try simp only [Act.put, lay1, lay2, lay3, lay4, lay5, lay6]
  try dsimp only
  try simp only [Act.put, lay1, lay2, lay3, lay4, lay5, lay6]
  refine wpAnyH_take (i := 27) (v := ?b1_v27) rfl (by kernel_rfl) (by kernel_rfl) (by kernel_rfl) (fun _ _ _ h => h) (Or.inl ⟨by kernel_rfl, ?b1_hy27⟩) (by assumption) ?b1_rest27
  case b1_hy27 => (intro w hSw; (try dsimp only at hSw); go_simp; try (with_reducible rfl))
  try simp only [Act.put, lay1, lay2, lay3, lay4, lay5, lay6]
  try dsimp only
  try simp only [Act.put, lay1, lay2, lay3, lay4, lay5, lay6]
  refine wpAnyH_take (i := 28) (v := ?b1_v28) rfl (by kernel_rfl) (by kernel_rfl) (by kernel_rfl) (fun _ _ _ h => h) (Or.inl ⟨by kernel_rfl, ?b1_hy28⟩) (by assumption) ?b1_rest28
  case b1_hy28 => (intro w hSw; (try dsimp only at hSw); go_simp; try (with_reducible rfl))
  try simp only [Act.put, lay1, lay2, lay3, lay4, lay5, lay6]
  try dsimp only
  try simp only [Act.put, lay1, lay2, lay3, lay4, lay5, lay6]
  refine wpAnyH_done (by kernel_rfl) ?_ _
  refine NoPanic.normal ?_
  replace hx := hx.below d7
  replace hy := hy.below d7
  replace hX := hX.below d7 hX.lt
  replace hY := hY.below d7 hY.lt
  replace hB := hB.trans (d7.mono hB.size)
  clear c4_hX_0 c4_hX_1 c4_hX_2 c4_hX_3 c4_hX_4 c4_hX_5 c4_hY_0 c4_hY_1 c4_hY_2 c4_hY_3 c4_hY_4 c4_hY_5
  obtain ⟨c5_hX_0, c5_hX_1, c5_hX_2, c5_hX_3, c5_hX_4, c5_hX_5⟩ := hX.cells6
  obtain ⟨c5_hY_0, c5_hY_1, c5_hY_2, c5_hY_3, c5_hY_4, c5_hY_5⟩ := hY.cells6
  clear d1 d2 d3 d4 d5 d6
  go_upto_region 6 with fail
  rcases r with _ | _
  · refine wp_region_noPanic ?_
    refine wp_region_held_drew (S := fun w' => w'.cell? ⟨g, 0, none⟩ = some (.int .i64 k) ∧ w'.cell? ⟨g, 1, none⟩ = some (.int .i64 z) ∧ w'.cell? ⟨g, 2, none⟩ = some (.int .i64 m) ∧ w'.cell? ⟨g, 3, none⟩ = some (.int .i64 o) ∧ w'.cell? ⟨g, 4, none⟩ = some (.int .i64 n) ∧ w'.cell? ⟨g, 5, none⟩ = some (.slice A bs.length c) ∧ w'.cell? ⟨g + 1, 0, none⟩ = some (.int .i64 k') ∧ w'.cell? ⟨g + 1, 1, none⟩ = some (.int .i64 z') ∧ w'.cell? ⟨g + 1, 2, none⟩ = some (.int .i64 m') ∧ w'.cell? ⟨g + 1, 3, none⟩ = some (.int .i64 o') ∧ w'.cell? ⟨g + 1, 4, none⟩ = some (.int .i64 n') ∧ w'.cell? ⟨g + 1, 5, none⟩ = some (.slice A' bs'.length c')) (by kernel_rfl) ?_ (fun hHeld => ?_)
    · exact ⟨(hX.below (by first | assumption | exact bdrew _) hX.lt).cell 0, (hX.below (by first | assumption | exact bdrew _) hX.lt).cell 1, (hX.below (by first | assumption | exact bdrew _) hX.lt).cell 2, (hX.below (by first | assumption | exact bdrew _) hX.lt).cell 3, (hX.below (by first | assumption | exact bdrew _) hX.lt).cell 4, (hX.below (by first | assumption | exact bdrew _) hX.lt).cell 5, (hY.below (by first | assumption | exact bdrew _) hY.lt).cell 0, (hY.below (by first | assumption | exact bdrew _) hY.lt).cell 1, (hY.below (by first | assumption | exact bdrew _) hY.lt).cell 2, (hY.below (by first | assumption | exact bdrew _) hY.lt).cell 3, (hY.below (by first | assumption | exact bdrew _) hY.lt).cell 4, (hY.below (by first | assumption | exact bdrew _) hY.lt).cell 5⟩
    refine wpAnyH_ready (rs := [0]) (by kernel_rfl) (by simp) ?_
    refine AllReadyH.cons rfl (fun K hK => ?_) AllReadyH.nil
    go_simp
    refine (hL _).mono ?_
    rintro e v8 ⟨rfl, d8⟩
    have d8 := bstep (bdrew v7) d8
    go_wp2_with fail
    refine hK.out _ _ ?_ (fun hHeld => ?_)
    · exact ⟨(hX.below (by first | assumption | exact bdrew _) hX.lt).cell 0, (hX.below (by first | assumption | exact bdrew _) hX.lt).cell 1, (hX.below (by first | assumption | exact bdrew _) hX.lt).cell 2, (hX.below (by first | assumption | exact bdrew _) hX.lt).cell 3, (hX.below (by first | assumption | exact bdrew _) hX.lt).cell 4, (hX.below (by first | assumption | exact bdrew _) hX.lt).cell 5, (hY.below (by first | assumption | exact bdrew _) hY.lt).cell 0, (hY.below (by first | assumption | exact bdrew _) hY.lt).cell 1, (hY.below (by first | assumption | exact bdrew _) hY.lt).cell 2, (hY.below (by first | assumption | exact bdrew _) hY.lt).cell 3, (hY.below (by first | assumption | exact bdrew _) hY.lt).cell 4, (hY.below (by first | assumption | exact bdrew _) hY.lt).cell 5⟩
    clear hK K
    try simp only [Act.put, lay1, lay2, lay3, lay4, lay5, lay6]
    refine wpAnyH_take (i := 1) (v := ?b2_v1) rfl (by kernel_rfl) (by kernel_rfl) (by kernel_rfl) (fun _ _ _ h => h) (Or.inl ⟨by kernel_rfl, ?b2_hy1⟩) (by assumption) ?b2_rest1
    case b2_hy1 => (intro w hSw; (try dsimp only at hSw); go_simp; try (with_reducible rfl))
    try simp only [Act.put, lay1, lay2, lay3, lay4, lay5, lay6]
    refine wpAnyH_take (i := 2) (v := ?b2_v2) rfl (by kernel_rfl) (by kernel_rfl) (by kernel_rfl) (fun _ _ _ h => h) (Or.inl ⟨by kernel_rfl, ?b2_hy2⟩) (by assumption) ?b2_rest2
    case b2_hy2 => (intro w hSw; (try dsimp only at hSw); go_simp; try (with_reducible rfl))
    try simp only [Act.put, lay1, lay2, lay3, lay4, lay5, lay6]
    refine wpAnyH_take (i := 3) (v := ?b2_v3) rfl (by kernel_rfl) (by kernel_rfl) (by kernel_rfl) (fun _ _ _ h => h) (Or.inl ⟨by kernel_rfl, ?b2_hy3⟩) (by assumption) ?b2_rest3
    case b2_hy3 => (intro w hSw; (try dsimp only at hSw); go_simp; try (with_reducible rfl))
    try simp only [Act.put, lay1, lay2, lay3, lay4, lay5, lay6]
    refine wpAnyH_take (i := 4) (v := ?b2_v4) rfl (by kernel_rfl) (by kernel_rfl) (by kernel_rfl) (fun _ _ _ h => h) (Or.inl ⟨by kernel_rfl, ?b2_hy4⟩) (by assumption) ?b2_rest4
    case b2_hy4 => (intro w hSw; (try dsimp only at hSw); go_simp; try (with_reducible rfl))
    try simp only [Act.put, lay1, lay2, lay3, lay4, lay5, lay6]
    refine wpAnyH_take (i := 5) (v := undef) rfl (by kernel_rfl) (by kernel_rfl) (by kernel_rfl) (fun _ _ _ h => h) (Or.inr ⟨by kernel_rfl, rfl⟩) (by assumption) ?_
    try simp only [Act.put, lay1, lay2, lay3, lay4, lay5, lay6]
    refine wpAnyH_take (i := 6) (v := undef) rfl (by kernel_rfl) (by kernel_rfl) (by kernel_rfl) (fun _ _ _ h => h) (Or.inr ⟨by kernel_rfl, rfl⟩) (by assumption) ?_
    try simp only [Act.put, lay1, lay2, lay3, lay4, lay5, lay6]
    refine wpAnyH_take (i := 7) (v := undef) rfl (by kernel_rfl) (by kernel_rfl) (by kernel_rfl) (fun _ _ _ h => h) (Or.inr ⟨by kernel_rfl, rfl⟩) (by assumption) ?_
    try simp only [Act.put, lay1, lay2, lay3, lay4, lay5, lay6]
    refine wpAnyH_take (i := 8) (v := undef) rfl (by kernel_rfl) (by kernel_rfl) (by kernel_rfl) (fun _ _ _ h => h) (Or.inr ⟨by kernel_rfl, rfl⟩) (by assumption) ?_
    try simp only [Act.put, lay1, lay2, lay3, lay4, lay5, lay6]
    refine wpAnyH_take (i := 9) (v := undef) rfl (by kernel_rfl) (by kernel_rfl) (by kernel_rfl) (fun _ _ _ h => h) (Or.inr ⟨by kernel_rfl, rfl⟩) (by assumption) ?_
    try simp only [Act.put, lay1, lay2, lay3, lay4, lay5, lay6]
    refine wpAnyH_take (i := 10) (v := ?b2_v10) rfl (by kernel_rfl) (by kernel_rfl) (by kernel_rfl) (fun _ _ _ h => h) (Or.inl ⟨by kernel_rfl, ?b2_hy10⟩) (by assumption) ?b2_rest10
    case b2_hy10 => (intro w hSw; (try dsimp only at hSw); go_simp; try (with_reducible rfl))
    try simp only [Act.put, lay1, lay2, lay3, lay4, lay5, lay6]
    try dsimp only
    try simp only [Act.put, lay1, lay2, lay3, lay4, lay5, lay6]
    refine wpAnyH_take (i := 11) (v := ?b2_v11) rfl (by kernel_rfl) (by kernel_rfl) (by kernel_rfl) (fun _ _ _ h => h) (Or.inl ⟨by kernel_rfl, ?b2_hy11⟩) (by assumption) ?b2_rest11
    case b2_hy11 => (intro w hSw; (try dsimp only at hSw); go_simp; try (with_reducible rfl))
    try simp only [Act.put, lay1, lay2, lay3, lay4, lay5, lay6]
    try dsimp only
    try simp only [Act.put, lay1, lay2, lay3, lay4, lay5, lay6]
    refine wpAnyH_take (i := 12) (v := ?b2_v12) rfl (by kernel_rfl) (by kernel_rfl) (by kernel_rfl) (fun _ _ _ h => h) (Or.inl ⟨by kernel_rfl, ?b2_hy12⟩) (by assumption) ?b2_rest12
    case b2_hy12 => (intro w hSw; (try dsimp only at hSw); go_simp; try (with_reducible rfl))
    try simp only [Act.put, lay1, lay2, lay3, lay4, lay5, lay6]
    try dsimp only
    try simp only [Act.put, lay1, lay2, lay3, lay4, lay5, lay6]
    refine wpAnyH_done (by kernel_rfl) ?_ _
    refine NoPanic.normal ?_
    go_wp2
    go_ret
    exact ⟨rfl, hB.trans (d8.mono hB.size)⟩
  · have hLd := HLD.out rfl
    obtain ⟨hLd1, hLd2⟩ := hLd
    refine wp_region_noPanic ?_
    refine wp_region_held_drew (S := fun w' => w'.cell? ⟨g, 0, none⟩ = some (.int .i64 k) ∧ w'.cell? ⟨g, 1, none⟩ = some (.int .i64 z) ∧ w'.cell? ⟨g, 2, none⟩ = some (.int .i64 m) ∧ w'.cell? ⟨g, 3, none⟩ = some (.int .i64 o) ∧ w'.cell? ⟨g, 4, none⟩ = some (.int .i64 n) ∧ w'.cell? ⟨g, 5, none⟩ = some (.slice A bs.length c) ∧ w'.cell? ⟨g + 1, 0, none⟩ = some (.int .i64 k') ∧ w'.cell? ⟨g + 1, 1, none⟩ = some (.int .i64 z') ∧ w'.cell? ⟨g + 1, 2, none⟩ = some (.int .i64 m') ∧ w'.cell? ⟨g + 1, 3, none⟩ = some (.int .i64 o') ∧ w'.cell? ⟨g + 1, 4, none⟩ = some (.int .i64 n') ∧ w'.cell? ⟨g + 1, 5, none⟩ = some (.slice A' bs'.length c')) (by kernel_rfl) ?_ (fun hHeld => ?_)
    · exact ⟨(hX.below (by first | assumption | exact bdrew _) hX.lt).cell 0, (hX.below (by first | assumption | exact bdrew _) hX.lt).cell 1, (hX.below (by first | assumption | exact bdrew _) hX.lt).cell 2, (hX.below (by first | assumption | exact bdrew _) hX.lt).cell 3, (hX.below (by first | assumption | exact bdrew _) hX.lt).cell 4, (hX.below (by first | assumption | exact bdrew _) hX.lt).cell 5, (hY.below (by first | assumption | exact bdrew _) hY.lt).cell 0, (hY.below (by first | assumption | exact bdrew _) hY.lt).cell 1, (hY.below (by first | assumption | exact bdrew _) hY.lt).cell 2, (hY.below (by first | assumption | exact bdrew _) hY.lt).cell 3, (hY.below (by first | assumption | exact bdrew _) hY.lt).cell 4, (hY.below (by first | assumption | exact bdrew _) hY.lt).cell 5⟩
    refine wpAnyH_ready (rs := [0]) (by kernel_rfl) (by simp) ?_
    refine AllReadyH.cons rfl (fun K hK => ?_) AllReadyH.nil
    go_simp
    refine (hL _).mono ?_
    rintro e v8 ⟨rfl, d8⟩
    have d8 := bstep (bdrew v7) d8
    go_wp2_with fail
    refine hK.out _ _ ?_ (fun hHeld => ?_)
    · exact ⟨(hX.below (by first | assumption | exact bdrew _) hX.lt).cell 0, (hX.below (by first | assumption | exact bdrew _) hX.lt).cell 1, (hX.below (by first | assumption | exact bdrew _) hX.lt).cell 2, (hX.below (by first | assumption | exact bdrew _) hX.lt).cell 3, (hX.below (by first | assumption | exact bdrew _) hX.lt).cell 4, (hX.below (by first | assumption | exact bdrew _) hX.lt).cell 5, (hY.below (by first | assumption | exact bdrew _) hY.lt).cell 0, (hY.below (by first | assumption | exact bdrew _) hY.lt).cell 1, (hY.below (by first | assumption | exact bdrew _) hY.lt).cell 2, (hY.below (by first | assumption | exact bdrew _) hY.lt).cell 3, (hY.below (by first | assumption | exact bdrew _) hY.lt).cell 4, (hY.below (by first | assumption | exact bdrew _) hY.lt).cell 5⟩
    clear hK K
    try simp only [Act.put, lay1, lay2, lay3, lay4, lay5, lay6]
    refine wpAnyH_take (i := 1) (v := ?b3_v1) rfl (by kernel_rfl) (by kernel_rfl) (by kernel_rfl) (fun _ _ _ h => h) (Or.inl ⟨by kernel_rfl, ?b3_hy1⟩) (by assumption) ?b3_rest1
    case b3_hy1 => (intro w hSw; (try dsimp only at hSw); go_simp; try (with_reducible rfl))
    try simp only [Act.put, lay1, lay2, lay3, lay4, lay5, lay6]
    refine wpAnyH_take (i := 2) (v := ?b3_v2) rfl (by kernel_rfl) (by kernel_rfl) (by kernel_rfl) (fun _ _ _ h => h) (Or.inl ⟨by kernel_rfl, ?b3_hy2⟩) (by assumption) ?b3_rest2
    case b3_hy2 => (intro w hSw; (try dsimp only at hSw); go_simp; try (with_reducible rfl))
    try simp only [Act.put, lay1, lay2, lay3, lay4, lay5, lay6]
    refine wpAnyH_take (i := 3) (v := ?b3_v3) rfl (by kernel_rfl) (by kernel_rfl) (by kernel_rfl) (fun _ _ _ h => h) (Or.inl ⟨by kernel_rfl, ?b3_hy3⟩) (by assumption) ?b3_rest3
    case b3_hy3 => (intro w hSw; (try dsimp only at hSw); go_simp; try (with_reducible rfl))
    try simp only [Act.put, lay1, lay2, lay3, lay4, lay5, lay6]
    refine wpAnyH_take (i := 4) (v := ?b3_v4) rfl (by kernel_rfl) (by kernel_rfl) (by kernel_rfl) (fun _ _ _ h => h) (Or.inl ⟨by kernel_rfl, ?b3_hy4⟩) (by assumption) ?b3_rest4
    case b3_hy4 => (intro w hSw; (try dsimp only at hSw); go_simp; try (with_reducible rfl))
    try simp only [Act.put, lay1, lay2, lay3, lay4, lay5, lay6]
    refine wpAnyH_take (i := 5) (v := ?b3_v5) rfl (by kernel_rfl) (by kernel_rfl) (by kernel_rfl) (fun _ _ _ h => h) (Or.inl ⟨by kernel_rfl, ?b3_hy5⟩) (by assumption) ?b3_rest5
    case b3_hy5 => (intro w hSw; (try dsimp only at hSw); go_simp; try (with_reducible rfl))
    try simp only [Act.put, lay1, lay2, lay3, lay4, lay5, lay6]
    refine wpAnyH_take (i := 7) (v := ?b3_v7) rfl (by kernel_rfl) (by kernel_rfl) (by kernel_rfl) (fun _ _ _ h => h) (Or.inl ⟨by kernel_rfl, ?b3_hy7⟩) (by assumption) ?b3_rest7
    case b3_hy7 => (intro w hSw; (try dsimp only at hSw); go_simp; try (with_reducible rfl))
    try simp only [Act.put, lay1, lay2, lay3, lay4, lay5, lay6]
    refine wpAnyH_ready (rs := [6]) (by kernel_rfl) (by simp) ?_
    refine AllReadyH.cons rfl (fun K hK => ?_) AllReadyH.nil
    go_simp
    refine (hLd1 _ _ ⟨_, rfl, hx.below d8⟩).mono ?_
    rintro e v9 ⟨l1, rfl, hl1, d9⟩
    have d9 := bstep d8 d9
    go_wp2_with fail
    refine hK.out _ _ ?_ (fun hHeld => ?_)
    · exact ⟨(hX.below (by first | assumption | exact bdrew _) hX.lt).cell 0, (hX.below (by first | assumption | exact bdrew _) hX.lt).cell 1, (hX.below (by first | assumption | exact bdrew _) hX.lt).cell 2, (hX.below (by first | assumption | exact bdrew _) hX.lt).cell 3, (hX.below (by first | assumption | exact bdrew _) hX.lt).cell 4, (hX.below (by first | assumption | exact bdrew _) hX.lt).cell 5, (hY.below (by first | assumption | exact bdrew _) hY.lt).cell 0, (hY.below (by first | assumption | exact bdrew _) hY.lt).cell 1, (hY.below (by first | assumption | exact bdrew _) hY.lt).cell 2, (hY.below (by first | assumption | exact bdrew _) hY.lt).cell 3, (hY.below (by first | assumption | exact bdrew _) hY.lt).cell 4, (hY.below (by first | assumption | exact bdrew _) hY.lt).cell 5⟩
    clear hK K
    try simp only [Act.put, lay1, lay2, lay3, lay4, lay5, lay6]
    refine wpAnyH_ready (rs := [8]) (by kernel_rfl) (by simp) ?_
    refine AllReadyH.cons rfl (fun K hK => ?_) AllReadyH.nil
    go_simp
    refine (hLd2 _ _ ⟨_, rfl, hx.below d9⟩).mono ?_
    rintro e v10 ⟨l2, rfl, hl2, d10⟩
    replace hl1 := hl1.below d10
    have d10 := bstep d9 d10
    go_wp2_with fail
    refine hK.out _ _ ?_ (fun hHeld => ?_)
    · exact ⟨(hX.below (by first | assumption | exact bdrew _) hX.lt).cell 0, (hX.below (by first | assumption | exact bdrew _) hX.lt).cell 1, (hX.below (by first | assumption | exact bdrew _) hX.lt).cell 2, (hX.below (by first | assumption | exact bdrew _) hX.lt).cell 3, (hX.below (by first | assumption | exact bdrew _) hX.lt).cell 4, (hX.below (by first | assumption | exact bdrew _) hX.lt).cell 5, (hY.below (by first | assumption | exact bdrew _) hY.lt).cell 0, (hY.below (by first | assumption | exact bdrew _) hY.lt).cell 1, (hY.below (by first | assumption | exact bdrew _) hY.lt).cell 2, (hY.below (by first | assumption | exact bdrew _) hY.lt).cell 3, (hY.below (by first | assumption | exact bdrew _) hY.lt).cell 4, (hY.below (by first | assumption | exact bdrew _) hY.lt).cell 5⟩
    clear hK K
    try simp only [Act.put, lay1, lay2, lay3, lay4, lay5, lay6]
    refine wpAnyH_ready (rs := [9]) (by kernel_rfl) (by simp) ?_
    refine AllReadyH.cons rfl (fun K hK => ?_) AllReadyH.nil
    go_simp
    refine (hSL _ _ _ hl1 hl2).mono ?_
    rintro e v11 ⟨rfl, m11, hm11⟩
    have d11 : Below v7.heap.size v7 v11 := by rw [hm11]; exact below_drewN d10 m11
    clear hm11
    go_wp2_with fail
    refine hK.out _ _ ?_ (fun hHeld => ?_)
    · exact ⟨(hX.below (by first | assumption | exact bdrew _) hX.lt).cell 0, (hX.below (by first | assumption | exact bdrew _) hX.lt).cell 1, (hX.below (by first | assumption | exact bdrew _) hX.lt).cell 2, (hX.below (by first | assumption | exact bdrew _) hX.lt).cell 3, (hX.below (by first | assumption | exact bdrew _) hX.lt).cell 4, (hX.below (by first | assumption | exact bdrew _) hX.lt).cell 5, (hY.below (by first | assumption | exact bdrew _) hY.lt).cell 0, (hY.below (by first | assumption | exact bdrew _) hY.lt).cell 1, (hY.below (by first | assumption | exact bdrew _) hY.lt).cell 2, (hY.below (by first | assumption | exact bdrew _) hY.lt).cell 3, (hY.below (by first | assumption | exact bdrew _) hY.lt).cell 4, (hY.below (by first | assumption | exact bdrew _) hY.lt).cell 5⟩
    clear hK K
    try simp only [Act.put, lay1, lay2, lay3, lay4, lay5, lay6]
    refine wpAnyH_take (i := 10) (v := ?b3_v10) rfl (by kernel_rfl) (by kernel_rfl) (by kernel_rfl) (fun _ _ _ h => h) (Or.inl ⟨by kernel_rfl, ?b3_hy10⟩) (by assumption) ?b3_rest10
    case b3_hy10 => (intro w hSw; (try dsimp only at hSw); go_simp; try (with_reducible rfl))
    try simp only [Act.put, lay1, lay2, lay3, lay4, lay5, lay6]
    try dsimp only
    try simp only [Act.put, lay1, lay2, lay3, lay4, lay5, lay6]
    refine wpAnyH_take (i := 11) (v := ?b3_v11) rfl (by kernel_rfl) (by kernel_rfl) (by kernel_rfl) (fun _ _ _ h => h) (Or.inl ⟨by kernel_rfl, ?b3_hy11⟩) (by assumption) ?b3_rest11
    case b3_hy11 => (intro w hSw; (try dsimp only at hSw); go_simp; try (with_reducible rfl))
    try simp only [Act.put, lay1, lay2, lay3, lay4, lay5, lay6]
    try dsimp only
    try simp only [Act.put, lay1, lay2, lay3, lay4, lay5, lay6]
    refine wpAnyH_take (i := 12) (v := ?b3_v12) rfl (by kernel_rfl) (by kernel_rfl) (by kernel_rfl) (fun _ _ _ h => h) (Or.inl ⟨by kernel_rfl, ?b3_hy12⟩) (by assumption) ?b3_rest12
    case b3_hy12 => (intro w hSw; (try dsimp only at hSw); go_simp; try (with_reducible rfl))
    try simp only [Act.put, lay1, lay2, lay3, lay4, lay5, lay6]
    try dsimp only
    try simp only [Act.put, lay1, lay2, lay3, lay4, lay5, lay6]
    refine wpAnyH_done (by kernel_rfl) ?_ _
    refine NoPanic.normal ?_
    go_wp2
    go_ret
    exact ⟨rfl, hB.trans (d11.mono hB.size)⟩
theorem TensTells_all (u v : Value) (s s' : St) (w : World) (hu : IsSt w u s) (hv : IsSt w v s') (hin : ∀ b ∈ s.2.2.2.2.2, BkIn b) (hin' : ∀ b ∈ s'.2.2.2.2.2, BkIn b) :
    Calls Tryz.prog 3 #[u, v] w fun e w' => e = .returned (.bool true) ∧ Below w.heap.size w w' := by
  obtain ⟨k, z, m, o, n, bs⟩ := s
  obtain ⟨k', z', m', o', n', bs'⟩ := s'
  cases hf : fewS bs
  · exact TensTells_a u v k z m o n bs k' z' m' o' n' bs' w hu hv hin hin' hf
  · cases hf' : fewS bs'
    · exact TensTells_b u v k z m o n bs k' z' m' o' n' bs' w hu hv hin hin' hf hf'
    · exact TensTells_ok u v k z m o n bs k' z' m' o' n' bs' w hu hv hin hin' hf hf'
end Go.Proofs.YtochabikpaoalaaGreat
