/- The document's blocks: what is packed. Printed by gen_ref11p.py. -/
import Derived.Test.YtochabikpaoalaaGreatRef11
import Derived.Test.YtochabikpaoalaaGreatRNear10
import Derived.Test.YtochabikpaoalaaGreatTensM
import Derived.Deep.RegionHeld3
import Derived.Deep.DeepMust
namespace Go.Proofs.YtochabikpaoalaaGreat
open Go.RowKit
attribute [local go_sem ↓] Go.wp_at_zero Go.wp_at_succ


theorem no_odd {l : List Int} {s : Bool} (h : l.any (oddB s) = false) {j : Nat} (hj : j < l.length) : iat l j ≠ -9223372036854775808 ∧ (0 ≤ iat l j ∨ s = true) := by
  have h2 : oddB s (iat l j) = false := by
    cases e : oddB s (iat l j)
    · rfl
    · exact absurd (List.any_eq_true.2 ⟨_, iat_mem hj, e⟩) (by rw [h]; decide)
  unfold oddB at h2
  rw [Bool.or_eq_false_iff, Bool.and_eq_false_iff] at h2
  refine ⟨of_decide_eq_false h2.1, ?_⟩
  rcases h2.2 with h | h
  · exact .inl (by have := of_decide_eq_false h; omega)
  · exact .inr (by simpa using h)
theorem any_to {l : List Int} {s : Bool} {j : Nat} (hj : j < l.length) (h : (l.take j).any (oddB s) = false) (h2 : oddB s (iat l j) = false) : (l.take (j + 1)).any (oddB s) = false := by
  rw [iat_snoc_take l j hj, List.any_append, h]
  simpa using h2
theorem no_kind {k : Int} (hk : 0 ≤ k ∧ k ≤ 4) : ((k == 4 || sgn k) = true ∧ (k == 1) = false ∧ (k == 3) = false) ∨ ((k == 4 || sgn k) = false ∧ ((k == 1) = true ∨ ((k == 1) = false ∧ (k == 3) = true))) := by
  obtain ⟨h1, h2⟩ := hk
  have : k = 0 ∨ k = 1 ∨ k = 2 ∨ k = 3 ∨ k = 4 := by omega
  rcases this with rfl | rfl | rfl | rfl | rfl <;> simp [sgn]
set_option maxRecDepth 100000 in
set_option maxHeartbeats 8000000 in
theorem rpack_low (k : Int) (v : Value) (l : List Int) (w : World) (h : IsI w v l) (hi : ∀ x ∈ l, I64 x) (hlm : l.length ≤ 17592186044416) (hk : k < 0) :
    Calls Tryz.prog 36 #[.int .i64 k, v] w fun e w' => ∃ b, e = .returned (.tuple #[b, .int .i64 1]) ∧ IsBk w' b 0 0 [] [] ∧ Below w.heap.size w w' := by
  obtain ⟨Aa, Ca, rfl, _, _⟩ := id h.form
  have hk1 : decide (k < 0) = true := decide_eq_true hk
  obtain ⟨W0, hW, hR, hB⟩ := box1 w 43 #[.int .i64 0, .int .i64 0, .slice none 0 0, .slice none 0 0]
  obtain ⟨g, hg⟩ : ∃ g, g = w.heap.size := ⟨_, rfl⟩
  have hW' := Lib.hid (And.intro hW hg)
  rw [← hg] at hR
  have hgw : w.heap.size ≤ g := by omega
  clear hW hg
  skip
  replace h := h.below hB
  obtain ⟨c1_hR_0, c1_hR_1, c1_hR_2, c1_hR_3⟩ := hR.quad
  go_enter Tryz.func36, Tryz.ntmps36
  go_upto_region 1 with fail
  rw [← hW'.out.1, ← hW'.out.2]
  obtain ⟨p1, p2, p3, p4⟩ := putBlk hR (.int .i64 0) (.int .i64 0) (.slice none 0 0) (.slice none 0 0) hB (by omega)
  have q0 := hR.cell 0
  have z0 := hR.frozen 0
  have q1 := hR.cell 1
  have z1 := hR.frozen 1
  have q2 := hR.cell 2
  have z2 := hR.frozen 2
  have q3 := hR.cell 3
  have z3 := hR.frozen 3
  have P := Lib.hid (And.intro p4 p1.quad)
  clear p1 p2 p3 p4 
  go_wp2_with fail
  obtain ⟨P2, P3, P4, P5, P6⟩ := P.out
  exact bodyPost_ret (v := .tuple #[.agg #[.int .i64 0, .int .i64 0, .slice none 0 0, .slice none 0 0], .int .i64 1]) (by simp [results, Tryz.results36, go_sem, P3, P4, P5, P6, q0, q1, q2, q3]) rfl ⟨_, rfl, IsBk.nil _, P2⟩
set_option maxRecDepth 100000 in
set_option maxHeartbeats 8000000 in
theorem rpack_high (k : Int) (v : Value) (l : List Int) (w : World) (h : IsI w v l) (hi : ∀ x ∈ l, I64 x) (hlm : l.length ≤ 17592186044416) (hk : 4 < k) :
    Calls Tryz.prog 36 #[.int .i64 k, v] w fun e w' => ∃ b, e = .returned (.tuple #[b, .int .i64 1]) ∧ IsBk w' b 0 0 [] [] ∧ Below w.heap.size w w' := by
  obtain ⟨Aa, Ca, rfl, _, _⟩ := id h.form
  have hk1 : decide (k < 0) = false := decide_eq_false (by omega)
  have hk2 : decide (4 < k) = true := decide_eq_true hk
  have hk3 : ¬ k < 0 := by omega
  obtain ⟨W0, hW, hR, hB⟩ := box1 w 43 #[.int .i64 0, .int .i64 0, .slice none 0 0, .slice none 0 0]
  obtain ⟨g, hg⟩ : ∃ g, g = w.heap.size := ⟨_, rfl⟩
  have hW' := Lib.hid (And.intro hW hg)
  rw [← hg] at hR
  have hgw : w.heap.size ≤ g := by omega
  clear hW hg
  skip
  replace h := h.below hB
  obtain ⟨c1_hR_0, c1_hR_1, c1_hR_2, c1_hR_3⟩ := hR.quad
  go_enter Tryz.func36, Tryz.ntmps36
  go_upto_region 1 with fail
  rw [← hW'.out.1, ← hW'.out.2]
  obtain ⟨p1, p2, p3, p4⟩ := putBlk hR (.int .i64 0) (.int .i64 0) (.slice none 0 0) (.slice none 0 0) hB (by omega)
  have q0 := hR.cell 0
  have z0 := hR.frozen 0
  have q1 := hR.cell 1
  have z1 := hR.frozen 1
  have q2 := hR.cell 2
  have z2 := hR.frozen 2
  have q3 := hR.cell 3
  have z3 := hR.frozen 3
  have P := Lib.hid (And.intro p4 p1.quad)
  clear p1 p2 p3 p4 
  go_wp2_with fail
  obtain ⟨P2, P3, P4, P5, P6⟩ := P.out
  exact bodyPost_ret (v := .tuple #[.agg #[.int .i64 0, .int .i64 0, .slice none 0 0, .slice none 0 0], .int .i64 1]) (by simp [results, Tryz.results36, go_sem, P3, P4, P5, P6, q0, q1, q2, q3]) rfl ⟨_, rfl, IsBk.nil _, P2⟩
set_option maxRecDepth 100000 in
set_option maxHeartbeats 8000000 in
theorem rpack_odd (k : Int) (v : Value) (l : List Int) (w : World) (h : IsI w v l) (hi : ∀ x ∈ l, I64 x) (hlm : l.length ≤ 17592186044416) (hk : 0 ≤ k ∧ k ≤ 4) (ho : l.any (oddB (k == 4 || sgn k)) = true) :
    Calls Tryz.prog 36 #[.int .i64 k, v] w fun e w' => ∃ b, e = .returned (.tuple #[b, .int .i64 1]) ∧ IsBk w' b 0 0 [] [] ∧ Below w.heap.size w w' := by
  obtain ⟨Aa, Ca, rfl, _, _⟩ := id h.form
  have hk1 : decide (k < 0) = false := decide_eq_false (by omega)
  have hk2 : decide (4 < k) = false := decide_eq_false (by omega)
  have hk3 : ¬ k < 0 := by omega
  have hk4 : ¬ 4 < k := by omega
  have hs13 := no_kind hk
  generalize hsg : (k == 4 || sgn k) = sg at *
  clear hsg hk
  obtain ⟨W0, hW, hR, hB⟩ := box1 w 43 #[.int .i64 0, .int .i64 0, .slice none 0 0, .slice none 0 0]
  obtain ⟨g, hg⟩ : ∃ g, g = w.heap.size := ⟨_, rfl⟩
  have hW' := Lib.hid (And.intro hW hg)
  rw [← hg] at hR
  have hgw : w.heap.size ≤ g := by omega
  clear hW hg
  skip
  replace h := h.below hB
  obtain ⟨c1_hR_0, c1_hR_1, c1_hR_2, c1_hR_3⟩ := hR.quad
  go_enter Tryz.func36, Tryz.ntmps36
  go_upto_region 1 with fail
  rw [← hW'.out.1, ← hW'.out.2]
  go_wp2_with fail
  go_loop [6] (fun i => ∃ j : Nat, j ≤ l.length ∧ i = .int .i64 j ∧ Hid ((l.take j).any (oddB sg) = false)) (fun i => l.length - (intOf i).toNat)
  case atStart => exact ⟨0, by omega, rfl, Lib.hid (by simp)⟩
  case round =>
    obtain ⟨j, hj, rfl, hno⟩ := hrel
    by_cases hlt : j < l.length
    · obtain ⟨ad, rfl, hc⟩ := h.at_ hlt
      have i0 : (0 : Int) ≤ (j : Int) := by omega
      have i1 : (j : Int) < (l.length : Int) := by omega
      have HS := Lib.hid (fun (h2 : oddB sg (iat l j) = false) => any_to hlt hno.out h2)
      clear hno
      generalize iat l j = x at *
      by_cases hx : x = -9223372036854775808
      · have hx1 : (x == -9223372036854775808) = true := by simpa using hx
        have hx2 : decide (x = -9223372036854775808) = true := by simpa using hx
        clear hx HS hs13
        obtain ⟨p1, p2, p3, p4⟩ := putBlk hR (.int .i64 0) (.int .i64 0) (.slice none 0 0) (.slice none 0 0) hB (by omega)
        have q0 := hR.cell 0
        have z0 := hR.frozen 0
        have q1 := hR.cell 1
        have z1 := hR.frozen 1
        have q2 := hR.cell 2
        have z2 := hR.frozen 2
        have q3 := hR.cell 3
        have z3 := hR.frozen 3
        have P := Lib.hid (And.intro p4 p1.quad)
        clear p1 p2 p3 p4 
        go_wp2_with fail
        obtain ⟨P2, P3, P4, P5, P6⟩ := P.out
        exact bodyPost_ret (v := .tuple #[.agg #[.int .i64 0, .int .i64 0, .slice none 0 0, .slice none 0 0], .int .i64 1]) (by simp [results, Tryz.results36, go_sem, P3, P4, P5, P6, q0, q1, q2, q3]) rfl ⟨_, rfl, IsBk.nil _, P2⟩
      · have hx1 : (x == -9223372036854775808) = false := by simpa using hx
        have hx2 : decide (x = -9223372036854775808) = false := by simpa using hx
        by_cases hn : x < 0
        · have hn1 : decide (x < 0) = true := decide_eq_true hn
          rcases hs13 with ⟨rfl, e1, e3⟩ | ⟨rfl, e1 | ⟨e1, e3⟩⟩
          · have HS2 := Lib.hid (HS.out (by unfold oddB; rw [hx2]; simp))
            clear hx HS hn
            go_wp2_with fail
            go_round
            case rel => exact ⟨j + 1, by omega, by go_num, HS2⟩
            case measure => simp [intOf]; omega
          · clear hx HS hn
            obtain ⟨p1, p2, p3, p4⟩ := putBlk hR (.int .i64 0) (.int .i64 0) (.slice none 0 0) (.slice none 0 0) hB (by omega)
            have q0 := hR.cell 0
            have z0 := hR.frozen 0
            have q1 := hR.cell 1
            have z1 := hR.frozen 1
            have q2 := hR.cell 2
            have z2 := hR.frozen 2
            have q3 := hR.cell 3
            have z3 := hR.frozen 3
            have P := Lib.hid (And.intro p4 p1.quad)
            clear p1 p2 p3 p4 
            go_wp2_with fail
            obtain ⟨P2, P3, P4, P5, P6⟩ := P.out
            exact bodyPost_ret (v := .tuple #[.agg #[.int .i64 0, .int .i64 0, .slice none 0 0, .slice none 0 0], .int .i64 1]) (by simp [results, Tryz.results36, go_sem, P3, P4, P5, P6, q0, q1, q2, q3]) rfl ⟨_, rfl, IsBk.nil _, P2⟩
          · clear hx HS hn
            obtain ⟨p1, p2, p3, p4⟩ := putBlk hR (.int .i64 0) (.int .i64 0) (.slice none 0 0) (.slice none 0 0) hB (by omega)
            have q0 := hR.cell 0
            have z0 := hR.frozen 0
            have q1 := hR.cell 1
            have z1 := hR.frozen 1
            have q2 := hR.cell 2
            have z2 := hR.frozen 2
            have q3 := hR.cell 3
            have z3 := hR.frozen 3
            have P := Lib.hid (And.intro p4 p1.quad)
            clear p1 p2 p3 p4 
            go_wp2_with fail
            obtain ⟨P2, P3, P4, P5, P6⟩ := P.out
            exact bodyPost_ret (v := .tuple #[.agg #[.int .i64 0, .int .i64 0, .slice none 0 0, .slice none 0 0], .int .i64 1]) (by simp [results, Tryz.results36, go_sem, P3, P4, P5, P6, q0, q1, q2, q3]) rfl ⟨_, rfl, IsBk.nil _, P2⟩
        · have hn1 : decide (x < 0) = false := decide_eq_false hn
          have HS2 := Lib.hid (HS.out (by unfold oddB; rw [hx2, hn1]; simp))
          clear hx HS hs13
          go_wp2_with fail
          go_round
          case rel => exact ⟨j + 1, by omega, by go_num, HS2⟩
          case measure => simp [intOf]; omega
    · obtain rfl : j = l.length := by omega
      have := hno.out
      rw [List.take_length, ho] at this
      cases this
set_option maxRecDepth 100000 in
set_option maxHeartbeats 8000000 in
theorem rpack_large (k : Int) (v : Value) (l : List Int) (w : World) (h : IsI w v l) (hi : ∀ x ∈ l, I64 x) (hlm : l.length ≤ 17592186044416) (hk : 0 ≤ k ∧ k ≤ 4) (ho : l.any (oddB (k == 4 || sgn k)) = false) (hl : ¬ l.length ≤ 4096) :
    Calls Tryz.prog 36 #[.int .i64 k, v] w fun e w' => ∃ b, e = .returned (.tuple #[b, .int .i64 6]) ∧ IsBk w' b 0 0 [] [] ∧ Below w.heap.size w w' := by
  obtain ⟨Aa, Ca, rfl, _, _⟩ := id h.form
  have hk1 : decide (k < 0) = false := decide_eq_false (by omega)
  have hk2 : decide (4 < k) = false := decide_eq_false (by omega)
  have hk3 : ¬ k < 0 := by omega
  have hk4 : ¬ 4 < k := by omega
  have hs13 := no_kind hk
  have HO : Hid (∀ j, j < l.length → iat l j ≠ -9223372036854775808 ∧ (0 ≤ iat l j ∨ ((k == 1) = false ∧ (k == 3) = false))) := Lib.hid (fun j hj => by
    obtain ⟨h1, h2⟩ := no_odd ho hj
    refine ⟨h1, h2.imp id fun e => ?_⟩
    rcases hs13 with ⟨_, h⟩ | ⟨h, _⟩
    · exact h
    · rw [e] at h; cases h)
  clear hs13
  have hl1 : decide ((4096 : Int) < (l.length : Int)) = true := decide_eq_true (by omega)
  have hl2 : decide (4096 < l.length) = true := decide_eq_true (by omega)
  have hl3 : 4096 < l.length := by omega
  obtain ⟨W0, hW, hR, hB⟩ := box1 w 43 #[.int .i64 0, .int .i64 0, .slice none 0 0, .slice none 0 0]
  obtain ⟨g, hg⟩ : ∃ g, g = w.heap.size := ⟨_, rfl⟩
  have hW' := Lib.hid (And.intro hW hg)
  rw [← hg] at hR
  have hgw : w.heap.size ≤ g := by omega
  clear hW hg
  skip
  replace h := h.below hB
  obtain ⟨c1_hR_0, c1_hR_1, c1_hR_2, c1_hR_3⟩ := hR.quad
  go_enter Tryz.func36, Tryz.ntmps36
  go_upto_region 1 with fail
  rw [← hW'.out.1, ← hW'.out.2]
  go_wp2_with fail
  go_loop [6] (fun i => ∃ j : Nat, j ≤ l.length ∧ i = .int .i64 j) (fun i => l.length - (intOf i).toNat)
  case atStart => exact ⟨0, by omega, rfl⟩
  case round =>
    obtain ⟨j, hj, rfl⟩ := hrel
    by_cases hlt : j < l.length
    · obtain ⟨ad, rfl, hc⟩ := h.at_ hlt
      have i0 : (0 : Int) ≤ (j : Int) := by omega
      have i1 : (j : Int) < (l.length : Int) := by omega
      obtain ⟨hx, hn⟩ := HO.out j hlt
      clear HO
      generalize iat l j = x at *
      have hx1 : (x == -9223372036854775808) = false := by simpa using hx
      have hx2 : decide (x = -9223372036854775808) = false := by simpa using hx
      clear hx
      by_cases hn0 : x < 0
      · have hn1 : decide (x < 0) = true := decide_eq_true hn0
        obtain ⟨e1, e3⟩ := hn.resolve_left (by omega)
        clear hn
        go_wp2_with fail
        go_round
        case rel => exact ⟨j + 1, by omega, by go_num⟩
        case measure => simp [intOf]; omega
      · have hn1 : decide (x < 0) = false := decide_eq_false hn0
        clear hn
        go_wp2_with fail
        go_round
        case rel => exact ⟨j + 1, by omega, by go_num⟩
        case measure => simp [intOf]; omega
    · obtain rfl : j = l.length := by omega
      obtain ⟨p1, p2, p3, p4⟩ := putBlk hR (.int .i64 0) (.int .i64 0) (.slice none 0 0) (.slice none 0 0) hB (by omega)
      have q0 := hR.cell 0
      have z0 := hR.frozen 0
      have q1 := hR.cell 1
      have z1 := hR.frozen 1
      have q2 := hR.cell 2
      have z2 := hR.frozen 2
      have q3 := hR.cell 3
      have z3 := hR.frozen 3
      have P := Lib.hid (And.intro p4 p1.quad)
      clear p1 p2 p3 p4 
      go_wp2_with fail
      obtain ⟨P2, P3, P4, P5, P6⟩ := P.out
      exact bodyPost_ret (v := .tuple #[.agg #[.int .i64 0, .int .i64 0, .slice none 0 0, .slice none 0 0], .int .i64 6]) (by simp [results, Tryz.results36, go_sem, P3, P4, P5, P6, q0, q1, q2, q3]) rfl ⟨_, rfl, IsBk.nil _, P2⟩
set_option maxRecDepth 100000 in
set_option maxHeartbeats 8000000 in
theorem rpack_wide (k : Int) (v : Value) (l : List Int) (w : World) (h : IsI w v l) (hi : ∀ x ∈ l, I64 x) (hlm : l.length ≤ 17592186044416) (hk4 : k = 4) (ho : l.any (oddB (k == 4 || sgn k)) = false) (hl : l.length ≤ 4096) :
    Calls Tryz.prog 36 #[.int .i64 k, v] w fun e w' => ∃ b, e = .returned (.tuple #[b, .int .i64 0]) ∧ IsBk w' b 4 0 [] l ∧ Below w.heap.size w w' ∧ FreshB w.heap.size b := by
  obtain ⟨Aa, Ca, rfl, _, _⟩ := id h.form
  subst hk4
  obtain ⟨i0, hi0, hz0, hz1, hz2⟩ := info_parts info_i64
  have HO : Hid (∀ j, j < l.length → iat l j ≠ -9223372036854775808 ∧ (0 ≤ iat l j ∨ (((4 : Int) == 1) = false ∧ ((4 : Int) == 3) = false))) := Lib.hid (fun j hj => ⟨(no_odd ho hj).1, .inr ⟨rfl, rfl⟩⟩)
  have hl1 : decide ((4096 : Int) < (l.length : Int)) = false := decide_eq_false (by omega)
  have hl2 : decide (4096 < l.length) = false := decide_eq_false (by omega)
  have hl3 : ¬ 4096 < l.length := by omega
  obtain ⟨W0, hW, hR, hB⟩ := box1 w 43 #[.int .i64 0, .int .i64 0, .slice none 0 0, .slice none 0 0]
  obtain ⟨g, hg⟩ : ∃ g, g = w.heap.size := ⟨_, rfl⟩
  have hW' := Lib.hid (And.intro hW hg)
  rw [← hg] at hR
  have hgw : w.heap.size ≤ g := by omega
  clear hW hg
  skip
  replace h := h.below hB
  obtain ⟨c1_hR_0, c1_hR_1, c1_hR_2, c1_hR_3⟩ := hR.quad
  go_enter Tryz.func36, Tryz.ntmps36
  go_upto_region 1 with fail
  rw [← hW'.out.1, ← hW'.out.2]
  go_wp2_with fail
  go_loop [6] (fun i => ∃ j : Nat, j ≤ l.length ∧ i = .int .i64 j) (fun i => l.length - (intOf i).toNat)
  case atStart => exact ⟨0, by omega, rfl⟩
  case round =>
    obtain ⟨j, hj, rfl⟩ := hrel
    by_cases hlt : j < l.length
    · obtain ⟨ad, rfl, hc⟩ := h.at_ hlt
      have i0 : (0 : Int) ≤ (j : Int) := by omega
      have i1 : (j : Int) < (l.length : Int) := by omega
      obtain ⟨hx, hn⟩ := HO.out j hlt
      clear HO
      generalize iat l j = x at *
      have hx1 : (x == -9223372036854775808) = false := by simpa using hx
      have hx2 : decide (x = -9223372036854775808) = false := by simpa using hx
      clear hx
      by_cases hn0 : x < 0
      · have hn1 : decide (x < 0) = true := decide_eq_true hn0
        obtain ⟨e1, e3⟩ := hn.resolve_left (by omega)
        clear hn
        go_wp2_with fail
        go_round
        case rel => exact ⟨j + 1, by omega, by go_num⟩
        case measure => simp [intOf]; omega
      · have hn1 : decide (x < 0) = false := decide_eq_false hn0
        clear hn
        go_wp2_with fail
        go_round
        case rel => exact ⟨j + 1, by omega, by go_num⟩
        case measure => simp [intOf]; omega
    · obtain rfl : j = l.length := by omega
      have hown := World.ownsRow_lit W0 #[] 0 (base := W0.heap.size) (e := 2) (size := 1) (Nat.le_refl _) (by unfold maxLen; omega) rfl
      obtain ⟨A9, C9, e9, k1, k2, hr⟩ := h
      injection e9 with e9a e9b e9c
      subst e9a e9c
      have hRa := hR.alloc (.cells #[] 2)
      have hne : (43 : TypeId) ≠ 2 := by decide
      have hgW : g < W0.heap.size := hR.lt
      go_wp2_with (at_builtin; go_must (refine wpList_append_any _ rfl (.tmp 52) (.tmp 53) _ rfl W0.heap.size 2 i0 _ 1 8 Tryz.underlying34 hi0 hz0 hz1 hz2 rfl (by omega) _ 0 [] rfl hown W0.heap.size Aa l.length Ca (is l) rfl (hr.alloc (Nat.le_refl _) _) (is_one _) (by unfold maxLen; omega) (by omega) (by simp) ?_; intro v' w1 hown' hgrow hat; rw [Nat.zero_add, List.nil_append] at hown'; have hv := IsI.of_own hown'; have hab : v'.ownBlock ≠ some g := (fun e => by have := (hown'.lt g e).1; omega);   have hX1 := hRa.grown hgrow (fun e => own_typeB hown hRa hne e.symm); have hB1 := hB.trans (((((Below.refl _ W0).alloc (Nat.le_refl _) _).grown hgrow (by simp) (fun g e => by cases e; exact Nat.le_refl _))).mono hB.size); obtain ⟨A5, C5, rfl, _, _⟩ := id hv.form; obtain ⟨p1, p2, p3, p4⟩ := putBlk hX1 (.int .i64 4) (.int .i64 0) (.slice none 0 0) (.slice A5 l.length C5) hB1 (by omega); have q0 := hX1.cell 0; have z0 := hX1.frozen 0; have q1 := hX1.cell 1; have z1 := hX1.frozen 1; have q2 := hX1.cell 2; have z2 := hX1.frozen 2; have q3 := hX1.cell 3; have z3 := hX1.frozen 3; have P := Lib.hid (And.intro (⟨_, _, rfl, IsY.nil _, p2 _ _ hab hv⟩ : IsBk _ (.agg #[.int .i64 4, .int .i64 0, .slice none 0 0, .slice A5 l.length C5]) 4 0 [] l) (And.intro p4 p1.quad)); have F9 := Lib.hid (⟨_, _, _, _, rfl, Fresh.nil _, (Fresh.of_own hown').more hB.size⟩ : FreshB w.heap.size (.agg #[.int .i64 4, .int .i64 0, .slice none 0 0, .slice A5 l.length C5])); clear p1 p2 p3 p4))
      obtain ⟨P1, P2, P3, P4, P5, P6⟩ := P.out
      exact bodyPost_ret (v := .tuple #[.agg #[.int .i64 4, .int .i64 0, .slice none 0 0, .slice A5 l.length C5], .int .i64 0]) (by simp [results, Tryz.results36, go_sem, P3, P4, P5, P6, q0, q1, q2, q3]) rfl ⟨_, rfl, P1, P2, F9.out⟩
set_option maxRecDepth 100000 in
set_option maxHeartbeats 8000000 in
theorem rpack_coded (k : Int) (v : Value) (l : List Int) (w : World) (h : IsI w v l) (hi : ∀ x ∈ l, I64 x) (hlm : l.length ≤ 17592186044416) (n : Nat) (hn : n < 4) (hkn : k = n) (ho : l.any (oddB (sgn (n : Nat))) = false) (hl : l.length ≤ 4096) :
    Calls Tryz.prog 36 #[.int .i64 k, v] w fun e w' => ∃ b, e = .returned (.tuple #[b, .int .i64 0]) ∧ IsBk w' b n (great l) (packC n l) [] ∧ Below w.heap.size w w' ∧ FreshB w.heap.size b := by
  obtain ⟨Aa, Ca, rfl, _, _⟩ := id h.form
  subst hkn
  have hk : (0 : Int) ≤ (n : Int) ∧ (n : Int) ≤ 4 := by omega
  have hk1 : decide ((n : Int) < 0) = false := decide_eq_false (by omega)
  have hk2 : decide (4 < (n : Int)) = false := decide_eq_false (by omega)
  have hk3 : ¬ (n : Int) < 0 := by omega
  have hk4 : ¬ 4 < (n : Int) := by omega
  have hk5 : ((n : Int) == 4) = false := by rw [beq_eq_false_iff_ne]; omega
  have hk6 : decide ((n : Int) = 4) = false := decide_eq_false (by omega)
  have ho9 : l.any (oddB ((n : Int) == 4 || sgn n)) = false := by rw [hk5, Bool.false_or]; exact ho
  have hs13 := no_kind hk
  have HO : Hid (∀ j, j < l.length → iat l j ≠ -9223372036854775808 ∧ (0 ≤ iat l j ∨ (((n : Int) == 1) = false ∧ ((n : Int) == 3) = false))) := Lib.hid (fun j hj => by
    obtain ⟨h1, h2⟩ := no_odd ho9 hj
    refine ⟨h1, h2.imp id fun e => ?_⟩
    rcases hs13 with ⟨_, h⟩ | ⟨h, _⟩
    · exact h
    · rw [e] at h; cases h)
  clear hs13 ho9 hk
  have hmin : ∀ x ∈ l, x ≠ -9223372036854775808 := fun x hx e => by
    have : l.any (oddB (sgn (n : Nat))) = true := List.any_eq_true.2 ⟨x, hx, by unfold oddB; simp [e]⟩
    rw [ho] at this; cases this
  have hg1 := great_in hi hmin
  have hg0 := great_nonneg l
  have hG := fun w h => rgreat_any (.slice Aa l.length Ca) l w h (fun x hx => ⟨hi x hx, hmin x hx⟩)
  have hNr : ∀ j, j < l.length → ∀ w, Calls Tryz.prog 51 #[.int .i64 n, .int .i64 (iat l j), .int .i64 (max (great l) 1)] w fun e w' => e = .returned (.tuple #[.int .u8 (codeOf n (iat l j) (max (great l) 1) : Nat), .int .i64 0]) ∧ Below w.heap.size w w' :=
    fun j hj w => rnear_ok n hn (iat l j) (max (great l) 1) w (hi _ (iat_mem hj)) (by unfold I64; omega) (share_packed hn ho (iat_mem hj))
  have hM2 := @run_max_int Tryz.prog
  clear hmin hi ho
  have hl1 : decide ((4096 : Int) < (l.length : Int)) = false := decide_eq_false (by omega)
  have hl2 : decide (4096 < l.length) = false := decide_eq_false (by omega)
  have hl3 : ¬ 4096 < l.length := by omega
  obtain ⟨W0, hW, hR, hB⟩ := box1 w 43 #[.int .i64 0, .int .i64 0, .slice none 0 0, .slice none 0 0]
  obtain ⟨g, hg⟩ : ∃ g, g = w.heap.size := ⟨_, rfl⟩
  have hW' := Lib.hid (And.intro hW hg)
  rw [← hg] at hR
  have hgw : w.heap.size ≤ g := by omega
  clear hW hg
  skip
  replace h := h.below hB
  obtain ⟨c1_hR_0, c1_hR_1, c1_hR_2, c1_hR_3⟩ := hR.quad
  go_enter Tryz.func36, Tryz.ntmps36
  go_upto_region 1 with fail
  rw [← hW'.out.1, ← hW'.out.2]
  go_wp2_with fail
  go_loop [6] (fun i => ∃ j : Nat, j ≤ l.length ∧ i = .int .i64 j) (fun i => l.length - (intOf i).toNat)
  case atStart => exact ⟨0, by omega, rfl⟩
  case round =>
    obtain ⟨j, hj, rfl⟩ := hrel
    by_cases hlt : j < l.length
    · obtain ⟨ad, rfl, hc⟩ := h.at_ hlt
      have i0 : (0 : Int) ≤ (j : Int) := by omega
      have i1 : (j : Int) < (l.length : Int) := by omega
      obtain ⟨hx, hn⟩ := HO.out j hlt
      clear HO
      generalize iat l j = x at *
      have hx1 : (x == -9223372036854775808) = false := by simpa using hx
      have hx2 : decide (x = -9223372036854775808) = false := by simpa using hx
      clear hx
      by_cases hn0 : x < 0
      · have hn1 : decide (x < 0) = true := decide_eq_true hn0
        obtain ⟨e1, e3⟩ := hn.resolve_left (by omega)
        clear hn
        go_wp2_with fail
        go_round
        case rel => exact ⟨j + 1, by omega, by go_num⟩
        case measure => simp [intOf]; omega
      · have hn1 : decide (x < 0) = false := decide_eq_false hn0
        clear hn
        go_wp2_with fail
        go_round
        case rel => exact ⟨j + 1, by omega, by go_num⟩
        case measure => simp [intOf]; omega
    · obtain rfl : j = l.length := by omega
      go_wp2_with fail
      refine (hG _ h).mono ?_
      rintro e w1 ⟨rfl, n1, rfl⟩
      have b1 : Below W0.heap.size W0 (W0.drewN n1) := below_drewN (Below.refl _ _) n1
      obtain ⟨wd, hwd⟩ : ∃ y, y = W0.drewN n1 := ⟨_, rfl⟩
      rw [← hwd] at b1 ⊢
      clear hwd
      replace h := h.below b1
      replace hR := hR.below b1 hR.lt
      replace hB := hB.trans (b1.mono hB.size)
      have hgd : g < wd.heap.size := hR.lt
      have hWd := hB.size
      clear c1_hR_0 c1_hR_1 c1_hR_2 c1_hR_3
      obtain ⟨V2, eV, hX, bV2⟩ := box1 wd 43 #[.int .i64 n, .int .i64 (great l), .slice none 0 0, .slice none 0 0]
      obtain ⟨X2, eX⟩ : ∃ X, X = wd.heap.size := ⟨_, rfl⟩
      rw [← eX] at hX
      have EV2 := Lib.hid (And.intro eV eX)
      have hXs : wd.heap.size ≤ X2 := by rw [eX]; exact Nat.le_refl _
      clear eV eX
      go_upto_region 13 with fail
      rw [← EV2.out.1, ← EV2.out.2]
      have h0 := Lib.hid h
      clear h
      have hR9 := hR
      clear hR
      go_wp2
      go_loopw [8] (fun i wr => ∃ (j : Nat) (a : Value), i = .int .i64 j ∧ j ≤ l.length ∧ Blk wr X2 43 #[.int .i64 n, .int .i64 (great l), a, .slice none 0 0] ∧ wr.ownsRow wd.heap.size 5 1 a j (ys (codeTo n l (max (great l) 1) j)) ∧ Below wd.heap.size wd wr) (fun i _ => l.length - (intOf i).toNat)
      case atStart => exact ⟨0, _, rfl, by omega, hX, ⟨by simp [codeTo, ys], .inl ⟨rfl, rfl⟩⟩, bV2⟩
      case round =>
        clear hX bV2
        obtain ⟨j, a, rfl, hj, hX, hown, bl⟩ := hrel
        obtain ⟨x0, x1, x2, x3⟩ := hX.quad
        have z2 := hX.frozen 2
        have h := h0.out.below bl
        by_cases hlt : j < l.length
        · obtain ⟨ad, rfl, hc⟩ := h.at_ hlt
          have HS := Lib.hid (codeTo_succ n l (max (great l) 1) j hlt)
          have hol := Lib.hid (codeTo_len n l (max (great l) 1) j hj)
          have i0 : (0 : Int) ≤ (j : Int) := by omega
          have i1 : (j : Int) < (l.length : Int) := by omega
          have hN := hNr j hlt
          have hcl := codeOf_le n (iat l j) (max (great l) 1)
          generalize hcd : codeOf n (iat l j) (max (great l) 1) = cd at *
          have hu : IntKind.u8.wrap (cd : Int) = cd := by rw [IntKind.wrap_u8]; omega
          have hH : ∀ w', Below wr.heap.size wr w' → w'.cell? ⟨X2, 1, none⟩ = some (.int .i64 (great l)) ∧ w'.cell? (ad.add j) = some (.int .i64 (iat l j)) := fun w' h => ⟨cellB h x1, cellB h hc⟩
          generalize iat l j = x at *
          clear hcd
          have b0 := bdrew wr
          go_upto_region 16 with fail
          go_cut [9, 10] (fun q q' wx => q = .int .u8 (cd : Int) ∧ q' = .int .i64 0 ∧ Below wr.heap.size wr wx)
          case first =>
            go_region_held3 (fun w' => w'.cell? ⟨X2, 1, none⟩ = some (.int .i64 (great l)) ∧ w'.cell? (ad.add j) = some (.int .i64 x))
              (first | exact hH _ b0 | exact hH _ (by assumption))
              (first
                | (go_at_call 51; refine (hN _).mono ?_; rintro x w9 ⟨rfl, b9⟩; have b10 := b0.trans (b9.mono b0.size)))
            all_goals (go_wp2_with fail; go_meet)
            all_goals exact ⟨rfl, rfl, b10⟩
          obtain ⟨rfl, rfl, bz⟩ := hcut
          have hX9 := hX.below bz hX.lt
          have own9 := own_below hown bz
          have bl9 := bl.trans (bz.mono bl.size)
          clear x0 x1 x2 x3 z2 hX hown bl bz h hc hH b0
          obtain ⟨x0, x1, x2, x3⟩ := hX9.quad
          have hXa := hX9.alloc (.cells #[.int .u8 (cd : Int)] 5)
          have hbs : wd.heap.size ≤ wc.heap.size + 1 := Nat.le_succ_of_le bl9.size
          have hne : (43 : TypeId) ≠ 5 := by decide
          go_wp2_with (at_builtin; go_must (refine wpList_app1 _ rfl _ _ 41 5 (.int .u8 0) 1 rfl Tryz.underlying41 info_u8 rfl wd.heap.size (.int .u8 (cd : Int)) rfl a j _ rfl (own9.alloc _) ⟨wc.heap.size, 0, none⟩ rfl (by simp) (by omega) (by omega) (by simp; exact hbs) ?_; intro v' w1 hown' hgrow; obtain ⟨g', cap', rfl⟩ := ownsRow_succ hown'; have hX1 := hXa.grown hgrow (fun e => own_typeB (own9.alloc _) hXa hne e.symm); obtain ⟨y0, y1, y2, y3⟩ := hX1.quad; have yz := hX1.frozen 2))
          have hX2 := hX1.set_ 2 (.slice (some ⟨g', 0, none⟩) (j + 1) cap')
          have own2 := own_setB hown' (p := ⟨X2, 2, none⟩) (own_typeB hown' hX1 hne) (.slice (some ⟨g', 0, none⟩) (j + 1) cap')
          have bl2 := ((bl9.alloc bl9.size (.cells #[.int .u8 (cd : Int)] 5)).grown hgrow (by simp; exact hbs) (fun j e => (own9.lt j e).1)).setCell (p := ⟨X2, 2, none⟩) hXs (.slice (some ⟨g', 0, none⟩) (j + 1) cap')
          refine ⟨⟨j + 1, _, by go_num, by omega, by simpa using hX2, ?_, bl2⟩, by simp [intOf]; omega⟩
          rw [HS.out, ys_snoc]
          exact own2
        · obtain rfl : j = l.length := by omega
          rw [codeTo_all] at hown
          have hR := hR9.below bl hR9.lt
          have hB := hB.trans (bl.mono hB.size)
          have hpl : (packC n l).length = l.length := packC_len _ _
          have hab : a.ownBlock ≠ some g := fun e => by have := (hown.lt g e).1; omega
          have hy : IsY wr a (packC n l) := IsY.of_own (by rw [hpl]; exact hown) packC_lt
          obtain ⟨A5, C5, rfl, _, _⟩ := id hy.form
          rw [hpl] at *
          obtain ⟨p1, p2, p3, p4⟩ := putBlk hR (.int .i64 n) (.int .i64 (great l)) (.slice A5 l.length C5) (.slice none 0 0) hB (by omega)
          have q0 := hR.cell 0
          have z0 := hR.frozen 0
          have q1 := hR.cell 1
          have z1 := hR.frozen 1
          have q2 := hR.cell 2
          have z2 := hR.frozen 2
          have q3 := hR.cell 3
          have z3 := hR.frozen 3
          have P := Lib.hid (And.intro ((⟨_, _, rfl, p3 _ _ hab hy, IsI.nil _⟩ : IsBk _ (.agg #[.int .i64 n, .int .i64 (great l), .slice A5 l.length C5, .slice none 0 0]) n (great l) (packC n l) [])) (And.intro p4 p1.quad))
          have F9 := Lib.hid (⟨_, _, _, _, rfl, (Fresh.of_own hown).more hWd, Fresh.nil _⟩ : FreshB w.heap.size (.agg #[.int .i64 n, .int .i64 (great l), .slice A5 l.length C5, .slice none 0 0]))
          clear p1 p2 p3 p4 h hab hy hown
          go_wp2_with fail
          obtain ⟨P1, P2, P3, P4, P5, P6⟩ := P.out
          exact bodyPost_ret (v := .tuple #[.agg #[.int .i64 n, .int .i64 (great l), .slice A5 l.length C5, .slice none 0 0], .int .i64 0]) (by simp [results, Tryz.results36, go_sem, P3, P4, P5, P6, q0, q1, q2, q3]) rfl ⟨_, rfl, P1, P2, F9.out⟩
theorem rpack_bad (kk : Int) (v : Value) (p : List Int) (w : World) (h : IsI w v p) (hi : ∀ x ∈ p, I64 x) (hlm : p.length ≤ 4096) (hk : 0 ≤ kk ∧ kk ≤ 4) (ho : oddP kk p = true) :
    Calls Tryz.prog 36 #[.int .i64 kk, v] w fun e w' => ∃ b, e = .returned (.tuple #[b, .int .i64 1]) ∧ IsBk w' b 0 0 [] [] ∧ Below w.heap.size w w' :=
  rpack_odd kk v p w h hi (by omega) hk ho
theorem rpack_good (kk : Int) (v : Value) (p : List Int) (w : World) (h : IsI w v p) (hi : ∀ x ∈ p, I64 x) (hk : 0 ≤ kk ∧ kk ≤ 4) (hl : p.length ≤ 4096) (ho : oddP kk p = false) :
    Calls Tryz.prog 36 #[.int .i64 kk, v] w fun e w' => ∃ b, e = .returned (.tuple #[b, .int .i64 0]) ∧ IsBk w' b (bkOf kk p).1 (bkOf kk p).2.1 (bkOf kk p).2.2.1 (bkOf kk p).2.2.2 ∧ Below w.heap.size w w' ∧ FreshB w.heap.size b := by
  unfold bkOf
  by_cases hk4 : kk = 4
  · rw [if_pos hk4]
    exact rpack_wide kk v p w h hi (by omega) hk4 ho hl
  · rw [if_neg hk4]
    obtain ⟨n, rfl⟩ := Int.eq_ofNat_of_zero_le hk.1
    have hk5 : ((n : Int) == 4) = false := by rw [beq_eq_false_iff_ne]; exact hk4
    unfold oddP at ho
    rw [hk5, Bool.false_or] at ho
    exact rpack_coded n v p w h hi (by omega) n (by omega) rfl ho hl
end Go.Proofs.YtochabikpaoalaaGreat
