/- The document's blocks: the same, few, how many, the greatest. Printed by gen_ref11.py. -/
import Derived.Test.YtochabikpaoalaaGreatBlock5
import Derived.Test.YtochabikpaoalaaGreatRef09s
import Derived.Deep.QuietTactic
import Derived.BigQuiet
namespace Go.Proofs.YtochabikpaoalaaGreat
open Go.RowKit
attribute [local go_sem ↓] Go.wp_at_zero Go.wp_at_succ

set_option maxRecDepth 100000 in
set_option maxHeartbeats 4000000 in
theorem rbsame_kind (u v : Value) (k s : Int) (cs : List Nat) (wd : List Int) (k' s' : Int) (cs' : List Nat) (wd' : List Int) (w : World) (hu : IsBk w u k s cs wd) (hv : IsBk w v k' s' cs' wd') (hk : k ≠ k') :
    Calls Tryz.prog 31 #[u, v] w fun e w' => e = .returned (.bool false) ∧ Below w.heap.size w w' := by
  obtain ⟨a, b, rfl, ha, hb⟩ := hu
  obtain ⟨a', b', rfl, ha', hb'⟩ := hv
  obtain ⟨Aa, Ca, rfl, _, _⟩ := id ha.form
  obtain ⟨Aa', Ca', rfl, _, _⟩ := id ha'.form
  have hE2 := fun w x y => same_any b b' wd wd' w x y
  have e1 : (k != k') = true := by simpa using hk
  have e2 : decide (k = k') = false := by simpa using hk
  obtain ⟨W0, hW, hT, hB⟩ := box2 w 43 43 #[.int .i64 k, .int .i64 s, .slice Aa cs.length Ca, b] #[.int .i64 k', .int .i64 s', .slice Aa' cs'.length Ca', b']
  obtain ⟨g, hg⟩ : ∃ g, g = w.heap.size := ⟨_, rfl⟩
  have hW' := Lib.hid (And.intro hW hg)
  rw [← hg] at hT
  have hgw : w.heap.size ≤ g := by omega
  clear hW hg
  obtain ⟨hX, hY⟩ := hT
  replace ha := ha.below hB
  replace hb := hb.below hB
  replace ha' := ha'.below hB
  replace hb' := hb'.below hB
  obtain ⟨c1_hX_0, c1_hX_1, c1_hX_2, c1_hX_3⟩ := hX.quad
  obtain ⟨c1_hY_0, c1_hY_1, c1_hY_2, c1_hY_3⟩ := hY.quad
  go_enter Tryz.func31, Tryz.ntmps31
  go_wp2
  rw [← hW'.out.1]
  go_ret
  exact ⟨ret_bool (by simp [*]), hB⟩
set_option maxRecDepth 100000 in
set_option maxHeartbeats 4000000 in
theorem rbsame_scale (u v : Value) (k s : Int) (cs : List Nat) (wd : List Int) (k' s' : Int) (cs' : List Nat) (wd' : List Int) (w : World) (hu : IsBk w u k s cs wd) (hv : IsBk w v k' s' cs' wd') (hk : k = k') (hs : s ≠ s') :
    Calls Tryz.prog 31 #[u, v] w fun e w' => e = .returned (.bool false) ∧ Below w.heap.size w w' := by
  obtain ⟨a, b, rfl, ha, hb⟩ := hu
  obtain ⟨a', b', rfl, ha', hb'⟩ := hv
  obtain ⟨Aa, Ca, rfl, _, _⟩ := id ha.form
  obtain ⟨Aa', Ca', rfl, _, _⟩ := id ha'.form
  have hE2 := fun w x y => same_any b b' wd wd' w x y
  subst hk
  have e3 : (s != s') = true := by simpa using hs
  have e4 : decide (s = s') = false := by simpa using hs
  obtain ⟨W0, hW, hT, hB⟩ := box2 w 43 43 #[.int .i64 k, .int .i64 s, .slice Aa cs.length Ca, b] #[.int .i64 k, .int .i64 s', .slice Aa' cs'.length Ca', b']
  obtain ⟨g, hg⟩ : ∃ g, g = w.heap.size := ⟨_, rfl⟩
  have hW' := Lib.hid (And.intro hW hg)
  rw [← hg] at hT
  have hgw : w.heap.size ≤ g := by omega
  clear hW hg
  obtain ⟨hX, hY⟩ := hT
  replace ha := ha.below hB
  replace hb := hb.below hB
  replace ha' := ha'.below hB
  replace hb' := hb'.below hB
  obtain ⟨c1_hX_0, c1_hX_1, c1_hX_2, c1_hX_3⟩ := hX.quad
  obtain ⟨c1_hY_0, c1_hY_1, c1_hY_2, c1_hY_3⟩ := hY.quad
  go_enter Tryz.func31, Tryz.ntmps31
  go_wp2
  rw [← hW'.out.1]
  go_ret
  exact ⟨ret_bool (by simp [*]), hB⟩
set_option maxRecDepth 100000 in
set_option maxHeartbeats 4000000 in
theorem rbsame_len (u v : Value) (k s : Int) (cs : List Nat) (wd : List Int) (k' s' : Int) (cs' : List Nat) (wd' : List Int) (w : World) (hu : IsBk w u k s cs wd) (hv : IsBk w v k' s' cs' wd') (hk : k = k') (hs : s = s') (hl : cs.length ≠ cs'.length) :
    Calls Tryz.prog 31 #[u, v] w fun e w' => e = .returned (.bool false) ∧ Below w.heap.size w w' := by
  obtain ⟨a, b, rfl, ha, hb⟩ := hu
  obtain ⟨a', b', rfl, ha', hb'⟩ := hv
  obtain ⟨Aa, Ca, rfl, _, _⟩ := id ha.form
  obtain ⟨Aa', Ca', rfl, _, _⟩ := id ha'.form
  have hE2 := fun w x y => same_any b b' wd wd' w x y
  subst hk hs
  have e3 : ((cs.length : Int) != (cs'.length : Int)) = true := by simp; omega
  have e4 : decide (cs.length = cs'.length) = false := by simpa using hl
  obtain ⟨W0, hW, hT, hB⟩ := box2 w 43 43 #[.int .i64 k, .int .i64 s, .slice Aa cs.length Ca, b] #[.int .i64 k, .int .i64 s, .slice Aa' cs'.length Ca', b']
  obtain ⟨g, hg⟩ : ∃ g, g = w.heap.size := ⟨_, rfl⟩
  have hW' := Lib.hid (And.intro hW hg)
  rw [← hg] at hT
  have hgw : w.heap.size ≤ g := by omega
  clear hW hg
  obtain ⟨hX, hY⟩ := hT
  replace ha := ha.below hB
  replace hb := hb.below hB
  replace ha' := ha'.below hB
  replace hb' := hb'.below hB
  obtain ⟨c1_hX_0, c1_hX_1, c1_hX_2, c1_hX_3⟩ := hX.quad
  obtain ⟨c1_hY_0, c1_hY_1, c1_hY_2, c1_hY_3⟩ := hY.quad
  go_enter Tryz.func31, Tryz.ntmps31
  go_wp2
  rw [← hW'.out.1]
  go_ret
  exact ⟨ret_bool (by simp [*]), hB⟩
set_option maxRecDepth 100000 in
set_option maxHeartbeats 4000000 in
theorem rbsame_loop (u v : Value) (k s : Int) (cs : List Nat) (wd : List Int) (k' s' : Int) (cs' : List Nat) (wd' : List Int) (w : World) (hu : IsBk w u k s cs wd) (hv : IsBk w v k' s' cs' wd') (hk : k = k') (hs : s = s') (hlen : cs.length = cs'.length) :
    Calls Tryz.prog 31 #[u, v] w fun e w' => e = .returned (.bool (decide (cs = cs') && decide (wd = wd'))) ∧ Below w.heap.size w w' := by
  obtain ⟨a, b, rfl, ha, hb⟩ := hu
  obtain ⟨a', b', rfl, ha', hb'⟩ := hv
  obtain ⟨Aa, Ca, rfl, _, _⟩ := id ha.form
  obtain ⟨Aa', Ca', rfl, _, _⟩ := id ha'.form
  have hE2 := fun w x y => same_any b b' wd wd' w x y
  subst hk hs
  rw [← hlen] at ha' ⊢
  have Hlen := Lib.hid hlen
  clear hlen
  obtain ⟨W0, hW, hT, hB⟩ := box2 w 43 43 #[.int .i64 k, .int .i64 s, .slice Aa cs.length Ca, b] #[.int .i64 k, .int .i64 s, .slice Aa' cs.length Ca', b']
  obtain ⟨g, hg⟩ : ∃ g, g = w.heap.size := ⟨_, rfl⟩
  have hW' := Lib.hid (And.intro hW hg)
  rw [← hg] at hT
  have hgw : w.heap.size ≤ g := by omega
  clear hW hg
  obtain ⟨hX, hY⟩ := hT
  replace ha := ha.below hB
  replace hb := hb.below hB
  replace ha' := ha'.below hB
  replace hb' := hb'.below hB
  obtain ⟨c1_hX_0, c1_hX_1, c1_hX_2, c1_hX_3⟩ := hX.quad
  obtain ⟨c1_hY_0, c1_hY_1, c1_hY_2, c1_hY_3⟩ := hY.quad
  go_enter Tryz.func31, Tryz.ntmps31
  go_wp2
  rw [← hW'.out.1, ← hW'.out.2]
  go_loopw [5] (fun i wr => ∃ (j n : Nat), j ≤ cs.length ∧ i = .int .i64 j ∧ Hid (cs.take j = cs'.take j) ∧ wr = W0.drewN n) (fun i _ => cs.length - (intOf i).toNat)
  case atStart => exact ⟨0, 0, by omega, rfl, Lib.hid rfl, rfl⟩
  case round =>
    obtain ⟨j, n, hj, rfl, htk, rfl⟩ := hrel
    have hX := hX.drewN n
    have hY := hY.drewN n
    have bn : Below W0.heap.size W0 (W0.drewN n) := below_drewN (Below.refl _ _) n
    by_cases hlt : j < cs.length
    · have hltb : j < cs'.length := by have h := Hlen.out; omega
      obtain ⟨ada, rfl, cja⟩ := ha.at_ hlt
      obtain ⟨adb, rfl, cjb⟩ := ha'.at_ hltb
      have i0 : (0 : Int) ≤ (j : Int) := by omega
      have i1 : (j : Int) < (cs.length : Int) := by omega
      by_cases hx : yat cs j = yat cs' j
      · have hx1 : ((yat cs j : Int) != (yat cs' j : Int)) = false := by simp [hx]
        have hx2 : decide ((yat cs j : Int) = (yat cs' j : Int)) = true := by simp [hx]
        have hx3 : decide (yat cs j = yat cs' j) = true := by simp [hx]
        have Hx := Lib.hid hx
        clear hx
        go_wp2
        go_quiet (fail)
        all_goals go_wp2
        refine ⟨⟨j + 1, _, by omega, by go_num, Lib.hid ?_, rfl⟩, by simp [intOf]; omega⟩
        rw [yat_snoc_take _ _ hlt, yat_snoc_take _ _ hltb, htk.out, Hx.out]
      · have hx1 : ((yat cs j : Int) != (yat cs' j : Int)) = true := by simp; omega
        have hx2 : decide ((yat cs j : Int) = (yat cs' j : Int)) = false := by simp; omega
        have hx3 : decide (yat cs j = yat cs' j) = false := by simp [hx]
        have Hx := Lib.hid hx
        clear hx
        have Hab : Hid (cs ≠ cs') := Lib.hid (fun h => Hx.out (by rw [h]))
        go_wp2
        go_quiet (fail)
        all_goals go_wp2
        go_ret
        exact ⟨ret_bool (by simp [Hab.out]), hB.trans ((below_drewN bn nq).mono hB.size)⟩
    · obtain rfl : j = cs.length := by omega
      have hab : cs = cs' := by
        have := htk.out
        rwa [List.take_of_length_le (Nat.le_refl _), List.take_of_length_le (by have := Hlen.out; omega)] at this
      clear htk Hlen
      subst hab
      have hB := hB.trans (bn.mono hB.size)
      go_wp2_with fail
      refine (hE2 _ (hb.below bn) (hb'.below bn)).mono ?_
      rintro e w1 ⟨rfl, m, rfl⟩
      go_wp2
      go_ret
      exact ⟨ret_bool (by simp), by first | exact below_drewN hB m | (rw [← World.drewN_drewN]; exact below_drewN hB m)⟩
/-- are two blocks the same? -/
theorem rbsame_any (u v : Value) (k s : Int) (cs : List Nat) (wd : List Int) (k' s' : Int) (cs' : List Nat) (wd' : List Int) (w : World) (hu : IsBk w u k s cs wd) (hv : IsBk w v k' s' cs' wd') :
    Calls Tryz.prog 31 #[u, v] w fun e w' => e = .returned (.bool (decide (k = k') && (decide (s = s') && (decide (cs = cs') && decide (wd = wd'))))) ∧ Below w.heap.size w w' := by
  by_cases hk : k = k'
  · rw [decide_eq_true hk, Bool.true_and]
    by_cases hs : s = s'
    · rw [decide_eq_true hs, Bool.true_and]
      by_cases hl : cs.length = cs'.length
      · exact rbsame_loop u v k s cs wd k' s' cs' wd' w hu hv hk hs hl
      · rw [decide_eq_false (fun h => hl (by rw [h])), Bool.false_and]
        exact rbsame_len u v k s cs wd k' s' cs' wd' w hu hv hk hs hl
    · rw [decide_eq_false hs, Bool.false_and]
      exact rbsame_scale u v k s cs wd k' s' cs' wd' w hu hv hk hs
  · rw [decide_eq_false hk, Bool.false_and]
    exact rbsame_kind u v k s cs wd k' s' cs' wd' w hu hv hk
set_option maxHeartbeats 1000000 in
theorem rblen_any (v : Value) (k s : Int) (cs : List Nat) (wd : List Int) (w : World) (h : IsBk w v k s cs wd) (h1 : cs.length ≤ 281474976710656) (h2 : wd.length ≤ 17592186044416) :
    Calls Tryz.prog 22 #[v] w fun e w' => e = .returned (.int .i64 ((cs.length : Int) + wd.length)) ∧ Below w.heap.size w w' := by
  obtain ⟨a, b, rfl, ha, hb⟩ := h
  obtain ⟨Aa, Ca, rfl, _, _⟩ := ha.form
  obtain ⟨Ab, Cb, rfl, _, _⟩ := hb.form
  have HB := Lib.hid ((Below.refl w.heap.size w).alloc (Nat.le_refl _) (.cells #[.int .i64 k, .int .i64 s, .slice Aa cs.length Ca, .slice Ab wd.length Cb] 43))
  generalize cs.length = n at *
  generalize wd.length = m' at *
  have k1 : (n : Int) ≤ 281474976710656 := by omega
  have k2 : (m' : Int) ≤ 17592186044416 := by omega
  go_enter Tryz.func22, Tryz.ntmps22
  go_wp2
  go_ret
  exact ⟨rfl, HB.out⟩
set_option maxHeartbeats 2000000 in
theorem rgreat_any (v : Value) (l : List Int) (w : World) (h : IsI w v l) (hm : ∀ x ∈ l, I64 x ∧ x ≠ -9223372036854775808) :
    Calls Tryz.prog 21 #[v] w fun e w' => e = .returned (.int .i64 (great l)) ∧ ∃ n, w' = w.drewN n := by
  obtain ⟨A, c, rfl, hc1, hc2, hr⟩ := h
  have HW : Hid (∀ j, j < l.length → IntKind.i64.wrap (-(iat l j)) = -(iat l j)) := Lib.hid (fun j hj => by
    obtain ⟨h1, h2⟩ := hm _ (iat_mem hj)
    unfold I64 at h1
    rw [IntKind.wrap_i64]; omega)
  have hM3 := @run_max3_int Tryz.prog
  clear hm
  go_enter Tryz.func21, Tryz.ntmps21
  go_wp2
  go_loopw [4, 3] (fun i n wr => ∃ k m : Nat, k ≤ l.length ∧ i = .int .i64 k ∧ n = .int .i64 (great (l.take k)) ∧ wr = w.drewN m) (fun i _ _ => l.length - (intOf i).toNat)
  case atStart => exact ⟨0, 0, by omega, rfl, rfl, rfl⟩
  case round =>
    obtain ⟨k, m, hk, rfl, rfl, rfl⟩ := hrel
    by_cases hlt : k < l.length
    · obtain ⟨ad, rfl, _, hx⟩ := is_cell hr hlt
      have HS := Lib.hid (great_take l k hlt)
      have hw := HW.out k hlt
      have i0 : (0 : Int) ≤ (k : Int) := by omega
      have i1 : (k : Int) < (l.length : Int) := by omega
      generalize iat l k = x at *
      generalize great (l.take k) = s0 at *
      go_wp2
      go_quiet (fail)
      all_goals go_wp2
      exact ⟨⟨k + 1, _, by omega, by go_num, by rw [HS.out]; congr 1; omega, rfl⟩, by simp [intOf]; omega⟩
    · obtain rfl : k = l.length := by omega
      rw [List.take_length]
      go_wp2
      go_ret
      exact ⟨rfl, _, rfl⟩
end Go.Proofs.YtochabikpaoalaaGreat
