/- Package tens: May, stays, greatest, Cost, Load. -/
import Derived.Test.YtochabikpaoalaaGreatOpenS
import Derived.BigQuiet
import Derived.Deep.DeepMust
import Derived.Deep.RegionHeld3
namespace Go.Proofs.YtochabikpaoalaaGreat
open Go.RowKit
attribute [local go_sem ↓] Go.wp_at_zero Go.wp_at_succ
set_option maxHeartbeats 1000000 in
theorem tmay_any (k z m o : Int) (w : World) : Calls Tryz.prog 9 #[.agg #[.int .i64 k, .int .i64 z, .int .i64 m, .int .i64 o]] w fun e w' => e = .returned (.bool (mayB k z m o)) ∧ Below w.heap.size w w' := by
  have HB := Lib.hid ((Below.refl w.heap.size w).alloc (Nat.le_refl _) (.cells #[.int .i64 k, .int .i64 z, .int .i64 m, .int .i64 o] 23))
  have hd : mayB k z m o = (decide (0 ≤ k) && (decide (k ≤ 3) && (decide (1 ≤ z) && (decide (z ≤ 4096) && (decide (0 ≤ m) && decide (0 ≤ o)))))) := by
    rw [Bool.eq_iff_iff]; simp [mayB]
  rw [hd]
  clear hd
  by_cases h1 : 0 ≤ k <;> by_cases h2 : k ≤ 3 <;> by_cases h3 : 1 ≤ z <;> by_cases h4 : z ≤ 4096 <;> by_cases h5 : 0 ≤ m
  all_goals try (exfalso; omega)
  all_goals
    first
      | rw [decide_eq_true h1]
      | rw [decide_eq_false h1]
    first
      | rw [decide_eq_true h2]
      | rw [decide_eq_false h2]
    first
      | rw [decide_eq_true h3]
      | rw [decide_eq_false h3]
    first
      | rw [decide_eq_true h4]
      | rw [decide_eq_false h4]
    first
      | rw [decide_eq_true h5]
      | rw [decide_eq_false h5]
    go_enter Tryz.func9, Tryz.ntmps9
    go_wp2
    go_ret
    exact ⟨rfl, HB.out⟩
set_option maxHeartbeats 1000000 in
theorem tstays_any (k z m o n g : Int) (w : World) : Calls Tryz.prog 26 #[.agg #[.int .i64 k, .int .i64 z, .int .i64 m, .int .i64 o], .int .i64 n, .int .i64 g] w fun e w' => e = .returned (.bool (staysB m o n g)) ∧ Below w.heap.size w w' := by
  have HB := Lib.hid ((Below.refl w.heap.size w).alloc (Nat.le_refl _) (.cells #[.int .i64 k, .int .i64 z, .int .i64 m, .int .i64 o] 23))
  unfold staysB
  by_cases h1 : n < m <;> by_cases h2 : 0 < o
  all_goals
    first
      | rw [decide_eq_true h1]
      | rw [decide_eq_false h1]
    first
      | rw [decide_eq_true h2]
      | rw [decide_eq_false h2]
    go_enter Tryz.func26, Tryz.ntmps26
    go_wp2
    go_ret
    exact ⟨rfl, HB.out⟩
theorem greatW_take (l : List Int) (j : Nat) (h : j < l.length) : greatW (l.take (j + 1)) = max (max (greatW (l.take j)) (iat l j)) (IntKind.i64.wrap (-iat l j)) := by rw [iat_snoc_take l j h, greatW_snoc]
set_option maxHeartbeats 2000000 in
theorem tgreat_any (v : Value) (l : List Int) (w : World) (h : IsI w v l) :
    Calls Tryz.prog 25 #[v] w fun e w' => e = .returned (.int .i64 (greatW l)) ∧ w = w' := by
  obtain ⟨A, c, rfl, hc1, hc2, hr⟩ := h
  have hM3 := @run_max3_int Tryz.prog
  go_enter Tryz.func25, Tryz.ntmps25
  go_wp2
  go_loop [8, 3] (fun i n => ∃ k : Nat, k ≤ l.length ∧ i = .int .i64 k ∧ n = .int .i64 (greatW (l.take k))) (fun i _ => l.length - (intOf i).toNat)
  case atStart => exact ⟨0, by omega, rfl, rfl⟩
  case round =>
    obtain ⟨k, hk, rfl, rfl⟩ := hrel
    by_cases hlt : k < l.length
    · obtain ⟨ad, rfl, _, hx⟩ := is_cell hr hlt
      have HS := Lib.hid (greatW_take l k hlt)
      have i0 : (0 : Int) ≤ (k : Int) := by omega
      have i1 : (k : Int) < (l.length : Int) := by omega
      generalize iat l k = x at *
      generalize greatW (l.take k) = s0 at *
      obtain ⟨nx, hnx⟩ : ∃ y, y = IntKind.i64.wrap (-x) := ⟨_, rfl⟩
      have HN := Lib.hid hnx
      have hnx2 := hnx.symm
      clear hnx
      go_wp2
      go_round
      case rel => exact ⟨k + 1, by omega, by go_num, by rw [HS.out, ← HN.out]; congr 1; omega⟩
      case measure => simp [intOf]; omega
    · obtain rfl : k = l.length := by omega
      rw [List.take_length]
      go_wp2
      go_ret
      exact ⟨rfl, rfl⟩
/-- few blocks, of few numbers -/
def FewB (bs : List Bk) : Prop := bs.length ≤ 5000 ∧ ∀ b ∈ bs, bkLen b ≤ 5000
theorem costS_le : ∀ {bs : List Bk}, (∀ b ∈ bs, bkLen b ≤ 5000) → 0 ≤ costS bs ∧ costS bs ≤ 48000 * (bs.length : Int)
  | [], _ => by simp [costS]
  | b :: r, h => by
    have h1 := h b (by simp)
    obtain ⟨h2, h3⟩ := costS_le (bs := r) fun x hx => h x (by simp [hx])
    have : 0 ≤ costB b ∧ costB b ≤ 48000 := by
      unfold costB; unfold bkLen at h1; split <;> omega
    simp only [costS, List.length_cons]; push_cast; omega
theorem take_bk {bs : List Bk} {j : Nat} {b : Bk} (h : bs[j]? = some b) : bs.take (j + 1) = bs.take j ++ [b] := by
  obtain ⟨hj, rfl⟩ := List.getElem?_eq_some_iff.1 h
  exact List.take_succ_eq_append_getElem hj
theorem mem_at {α : Type} {l : List α} {j : Nat} {b : α} (h : l[j]? = some b) : b ∈ l := List.mem_of_getElem? h
theorem FewB.take {bs : List Bk} (h : FewB bs) (j : Nat) : ∀ b ∈ bs.take j, bkLen b ≤ 5000 := fun b hb => h.2 b (List.mem_of_mem_take hb)
set_option maxRecDepth 100000 in
set_option maxHeartbeats 2000000 in
theorem tcost_any (v : Value) (s : St) (w : World) (h : IsSt w v s) (hf : FewB s.2.2.2.2.2) :
    Calls Tryz.prog 14 #[v] w fun e w' => e = .returned (.int .i64 (costS s.2.2.2.2.2)) ∧ Below w.heap.size w w' := by
  obtain ⟨k, z, m, o, n, bs⟩ := s
  obtain ⟨x, rfl, hb⟩ := h
  simp only at *
  obtain ⟨A, c, rfl, hc1, hc2⟩ := hb.len
  obtain ⟨W0, hW, hR, hB⟩ := box1 w 26 #[.int .i64 k, .int .i64 z, .int .i64 m, .int .i64 o, .int .i64 n, .slice A bs.length c]
  obtain ⟨g, hg⟩ : ∃ g, g = w.heap.size := ⟨_, rfl⟩
  have hW' := Lib.hid (And.intro hW hg)
  rw [← hg] at hR
  clear hW hg
  replace hb := hb.below hB
  have c5 := hR.cell 5
  go_enter Tryz.func14, Tryz.ntmps14
  go_upto_block 0 with fail
  rw [← hW'.out.1, ← hW'.out.2]
  go_wp2_with fail
  clear c5
  go_loopw [9, 3] (fun i t wr => ∃ j : Nat, i = .int .i64 j ∧ j ≤ bs.length ∧ t = .int .i64 (costS (bs.take j)) ∧ Below W0.heap.size W0 wr) (fun i _ _ => bs.length - (intOf i).toNat)
  case atStart => exact ⟨0, rfl, by omega, rfl, Below.refl _ _⟩
  case round =>
    obtain ⟨j, rfl, hj, rfl, bl⟩ := hrel
    by_cases hlt : j < bs.length
    · obtain ⟨ad, c', k1, s1, cs, wd, a1, b1, e1, _, hat, x0, x1, x2, x3, hy, hi⟩ := (hb.below bl).at_ hlt
      obtain ⟨rfl, _, rfl⟩ := Value.slice.inj e1
      obtain ⟨A2, C2, rfl, _, _⟩ := id hy.form
      obtain ⟨A3, C3, rfl, _, _⟩ := id hi.form
      have HS := Lib.hid (show costS (bs.take (j + 1)) = costS (bs.take j) + costB (k1, s1, cs, wd) by rw [take_bk hat, costS_snoc])
      have hl := hf.2 _ (mem_at hat)
      have HC := Lib.hid (show costB (k1, s1, cs, wd) = if k1 = 4 then 8 * (wd.length : Int) else (cs.length : Int) + 8 from rfl)
      have hq := costS_le (hf.take j)
      have hn0 := hf.1
      rw [List.length_take, Nat.min_eq_left hj] at hq
      simp only [bkLen] at hl
      have i0 : (0 : Int) ≤ (j : Int) := by omega
      have i1 : (j : Int) < (bs.length : Int) := by omega
      have i2 : (cs.length : Int) ≤ 5000 := by omega
      have i3 : (wd.length : Int) ≤ 5000 := by omega
      have i4 : costS (bs.take j) ≤ 240000000 := by omega
      have i5 := hq.1
      generalize costS (bs.take j) = t0 at *
      generalize cs.length = nc at *
      generalize wd.length = nw at *
      clear hq hl hat hy hi hn0
      by_cases hk : k1 = 4
      · subst hk
        go_wp2
        exact ⟨⟨j + 1, by go_num, by omega, by rw [HS.out, HC.out, if_pos rfl], bl.alloc bl.size _⟩, by simp [intOf]; omega⟩
      · go_wp2
        exact ⟨⟨j + 1, by go_num, by omega, by rw [HS.out, HC.out, if_neg hk], bl.alloc bl.size _⟩, by simp [intOf]; omega⟩
    · obtain rfl : j = bs.length := by omega
      rw [List.take_length]
      go_wp2
      go_ret
      exact ⟨rfl, hB.trans (bl.mono hB.size)⟩
/-- what can be loaded -/
def LoadB (b : Bk) : Prop := b.1 = 4 ∨ (0 ≤ b.1 ∧ b.1 ≤ 3 ∧ 0 ≤ b.2.1 ∧ b.2.1 ≤ 9223372036854775807)
theorem bkNums_le (b : Bk) : (bkNums b).length ≤ bkLen b := by
  unfold bkNums bkLen; split
  · omega
  · unfold loadC; rw [List.length_map]; omega
theorem bload_any (v : Value) (b : Bk) (w : World) (h : IsBk w v b.1 b.2.1 b.2.2.1 b.2.2.2) (hl : LoadB b) (hf : bkLen b ≤ 5000) :
    Calls Tryz.prog 32 #[v] w fun e w' => ∃ v', e = .returned v' ∧ IsI w' v' (bkNums b) ∧ Below w.heap.size w w' := by
  obtain ⟨k, s, cs, wd⟩ := b
  simp only [bkLen] at *
  unfold bkNums
  by_cases hk : k = 4
  · simp only; rw [if_pos hk]
    exact load_wide v k s cs wd w h hk (by omega)
  · simp only; rw [if_neg hk]
    obtain ⟨h0, h1, h2, h3⟩ := hl.resolve_left hk
    obtain ⟨n, rfl⟩ := Int.eq_ofNat_of_zero_le h0
    rw [Int.toNat_natCast]
    simp only at h1 h2 h3
    exact load_coded v n s cs wd w h (by omega) h2 h3 (by omega)
theorem loadS_snoc (l : List Bk) (b : Bk) : loadS (l ++ [b]) = loadS l ++ bkNums b := by simp [loadS]
theorem loadS_le : ∀ {bs : List Bk}, (∀ b ∈ bs, bkLen b ≤ 5000) → (loadS bs).length ≤ 5000 * bs.length
  | [], _ => by simp [loadS]
  | b :: r, h => by
    have h1 := h b (by simp)
    have h2 := loadS_le (bs := r) fun x hx => h x (by simp [hx])
    have h3 := bkNums_le b
    unfold loadS at *
    rw [List.flatMap_cons, List.length_append, List.length_cons]
    omega
set_option maxRecDepth 100000 in
set_option maxHeartbeats 2000000 in
theorem tload_any (v : Value) (s : St) (w : World) (h : IsSt w v s) (hf : FewB s.2.2.2.2.2) (hld : ∀ b ∈ s.2.2.2.2.2, LoadB b) :
    Calls Tryz.prog 17 #[v] w fun e w' => ∃ v', e = .returned v' ∧ IsI w' v' (loadS s.2.2.2.2.2) ∧ Below w.heap.size w w' := by
  obtain ⟨i0, hi, hz0, hz1, hz2⟩ := info_parts info_i64
  obtain ⟨k, z, m, o, n, bs⟩ := s
  obtain ⟨x, rfl, hb⟩ := h
  simp only at *
  obtain ⟨A, c, rfl, hc1, hc2⟩ := hb.len
  obtain ⟨W0, hW, hR, hB⟩ := box1 w 26 #[.int .i64 k, .int .i64 z, .int .i64 m, .int .i64 o, .int .i64 n, .slice A bs.length c]
  obtain ⟨g, hg⟩ : ∃ g, g = w.heap.size := ⟨_, rfl⟩
  have hW' := Lib.hid (And.intro hW hg)
  rw [← hg] at hR
  clear hW hg
  replace hb := hb.below hB
  have c5 := hR.cell 5
  go_enter Tryz.func17, Tryz.ntmps17
  go_upto_block 0 with fail
  rw [← hW'.out.1, ← hW'.out.2]
  go_wp2_with fail
  clear c5
  go_loopw [9, 3] (fun i t wr => ∃ j : Nat, i = .int .i64 j ∧ j ≤ bs.length ∧ wr.ownsRow W0.heap.size 2 1 t (loadS (bs.take j)).length (is (loadS (bs.take j))) ∧ Below W0.heap.size W0 wr) (fun i _ _ => bs.length - (intOf i).toNat)
  case atStart => exact ⟨0, rfl, by omega, World.ownsRow_nil _ _ _ _, Below.refl _ _⟩
  case round =>
    rename_i t0 _
    obtain ⟨j, rfl, hj, hown, bl⟩ := hrel
    by_cases hlt : j < bs.length
    · obtain ⟨ad, c', k1, s1, cs, wd, a1, b1, e1, _, hat, x0, x1, x2, x3, hy, hi1⟩ := (hb.below bl).at_ hlt
      obtain ⟨rfl, _, rfl⟩ := Value.slice.inj e1
      obtain ⟨A2, C2, rfl, _, _⟩ := id hy.form
      obtain ⟨A3, C3, rfl, _, _⟩ := id hi1.form
      have HS := Lib.hid (show loadS (bs.take (j + 1)) = loadS (bs.take j) ++ bkNums (k1, s1, cs, wd) by rw [take_bk hat, loadS_snoc])
      have hl := hf.2 _ (mem_at hat)
      have hq := loadS_le (hf.take j)
      have hn0 := hf.1
      rw [List.length_take, Nat.min_eq_left hj] at hq
      have hlb := bkNums_le (k1, s1, cs, wd)
      have hL := fun w h => bload_any (.agg #[.int .i64 k1, .int .i64 s1, .slice A2 cs.length C2, .slice A3 wd.length C3]) (k1, s1, cs, wd) w h (hld _ (mem_at hat)) hl
      have i0' : (0 : Int) ≤ (j : Int) := by omega
      have i1 : (j : Int) < (bs.length : Int) := by omega
      have hlen : (loadS (bs.take j)).length ≤ 25000000 := by omega
      have hlen2 : (bkNums (k1, s1, cs, wd)).length ≤ 5000 := by omega
      have hbk : IsBk wr (.agg #[.int .i64 k1, .int .i64 s1, .slice A2 cs.length C2, .slice A3 wd.length C3]) k1 s1 cs wd := ⟨_, _, rfl, hy, hi1⟩
      generalize loadS (bs.take j) = t0 at *
      generalize bkNums (k1, s1, cs, wd) = tb at *
      clear hq hl hat hn0 hlb
      go_wp2_with fail
      refine (hL _ (hbk.below (balloc (Below.refl _ _) _))).mono ?_
      rintro e w1 ⟨v1, rfl, h1, b1⟩
      have B1 : Below wr.heap.size wr w1 := bstep (balloc (Below.refl _ _) _) b1
      have own1 := own_below hown B1
      have bl1 := bstep bl B1
      obtain ⟨A4, C4, rfl, q1, q2, hr4⟩ := h1
      go_wp2_with (at_builtin; go_must (refine wpList_append_any _ rfl (.tmp 13) (.tmp 15) _ rfl W0.heap.size 2 i0 _ 1 8 Tryz.underlying34 hi hz0 hz1 hz2 rfl (by omega) _ _ _ rfl own1 w1.heap.size A4 tb.length C4 (is tb) rfl hr4 (is_one _) (by unfold maxLen; omega) (by omega) bl1.size ?_; intro v' w' hown' hgrow hat))
      rw [← is_append] at hown'
      refine ⟨⟨j + 1, by go_num, by omega, by rw [HS.out, List.length_append]; exact hown', bl1.grown hgrow bl1.size (fun g e => (own1.lt g e).1)⟩, by simp [intOf]; omega⟩
    · obtain rfl : j = bs.length := by omega
      rw [List.take_length] at hown
      go_wp2
      go_ret
      exact ⟨_, rfl, IsI.of_own hown, hB.trans (bl.mono hB.size)⟩
end Go.Proofs.YtochabikpaoalaaGreat
