/- The document's blocks: may codes be, is a block right? Printed by gen_ref11b.py. -/
import Derived.Test.YtochabikpaoalaaGreatRef11
import Derived.Test.YtochabikpaoalaaGreatTells10
namespace Go.Proofs.YtochabikpaoalaaGreat
open Go.RowKit
attribute [local go_sem ↓] Go.wp_at_zero Go.wp_at_succ

set_option maxRecDepth 100000 in
set_option maxHeartbeats 16000000 in
theorem rcodes_any (v : Value) (k s : Int) (cs : List Nat) (wd : List Int) (w : World) (h : IsBk w v k s cs wd) :
    Calls Tryz.prog 37 #[v] w fun e w' => e = .returned (.bool (decide (0 ≤ s) && (if s = 0 then cs.all (fun c => decide (c = codeOf k 0 1)) else cs.contains (codeOf k 1 1) || (decide (codeE k (-1) 1 = 0) && cs.contains (codeOf k (-1) 1))))) ∧ Below w.heap.size w w' := by
  obtain ⟨a, b, rfl, ha, hb⟩ := h
  obtain ⟨Aa, Ca, rfl, _, _⟩ := id ha.form
  have hN0 := fun w => rnear_any k 0 1 w (by unfold I64; omega) (by unfold I64; omega)
  have hN1 := fun w => rnear_any k 1 1 w (by unfold I64; omega) (by unfold I64; omega)
  have hN2 := fun w => rnear_any k (-1) 1 w (by unfold I64; omega) (by unfold I64; omega)
  have ce := codeE_cases k (-1) 1
  generalize codeOf k 0 1 = c0 at *
  generalize codeOf k 1 1 = c1 at *
  generalize codeOf k (-1) 1 = c2 at *
  generalize codeE k 0 1 = e0 at *
  generalize codeE k 1 1 = e1 at *
  generalize codeE k (-1) 1 = e2 at *
  obtain ⟨P, hP⟩ : ∃ P : Nat → Bool, P = fun c => decide (c = c1) || (decide (e2 = 0) && decide (c = c2)) := ⟨_, rfl⟩
  obtain ⟨Q, hQ⟩ : ∃ Q : Nat → Bool, Q = fun c => decide (c = c0) := ⟨_, rfl⟩
  have HP : Hid (∀ x, P x = (decide (x = c1) || (decide (e2 = 0) && decide (x = c2)))) := Lib.hid (fun x => by rw [hP])
  have HQ : Hid (∀ x, Q x = decide (x = c0)) := Lib.hid (fun x => by rw [hQ])
  obtain ⟨r, hr⟩ : ∃ r, r = (decide (0 ≤ s) && (if s = 0 then cs.all (fun c => decide (c = c0)) else cs.contains c1 || (decide (e2 = 0) && cs.contains c2))) := ⟨_, rfl⟩
  rw [← hr]
  have HR : Hid (r = (decide (0 ≤ s) && (if s = 0 then cs.all Q else cs.any P))) := Lib.hid (by
    rw [hr, hQ, hP]
    congr 2
    rw [Bool.eq_iff_iff]
    simp only [List.any_eq_true, Bool.or_eq_true, Bool.and_eq_true, decide_eq_true_eq, List.contains_iff_mem]
    constructor
    · rintro (h | ⟨h, h'⟩)
      · exact ⟨_, h, .inl rfl⟩
      · exact ⟨_, h', .inr ⟨h, rfl⟩⟩
    · rintro ⟨x, hx, rfl | ⟨h, rfl⟩⟩
      · exact .inl hx
      · exact .inr ⟨h, hx⟩)
  clear hb hP hQ hr
  obtain ⟨W0, hW, hR, hB⟩ := box1 w 43 #[.int .i64 k, .int .i64 s, .slice Aa cs.length Ca, b]
  obtain ⟨g, hg⟩ : ∃ g, g = w.heap.size := ⟨_, rfl⟩
  have hW' := Lib.hid (And.intro hW hg)
  rw [← hg] at hR
  have hgw : w.heap.size ≤ g := by omega
  clear hW hg
  skip
  replace ha := ha.below hB
  obtain ⟨c1_hR_0, c1_hR_1, c1_hR_2, c1_hR_3⟩ := hR.quad
  go_enter Tryz.func37, Tryz.ntmps37
  go_wp2_with fail
  rw [← hW'.out.1, ← hW'.out.2]
  refine (hN0 _).mono ?_
  rintro e w1 ⟨rfl, b1⟩
  replace ha := ha.below b1
  replace hR := hR.below b1 hR.lt
  replace hB := hB.trans (b1.mono hB.size)
  clear c1_hR_0 c1_hR_1 c1_hR_2 c1_hR_3
  obtain ⟨c2_hR_0, c2_hR_1, c2_hR_2, c2_hR_3⟩ := hR.quad
  go_wp2_with fail
  refine (hN1 _).mono ?_
  rintro e w2 ⟨rfl, b2⟩
  replace ha := ha.below b2
  replace hR := hR.below b2 hR.lt
  replace hB := hB.trans (b2.mono hB.size)
  clear c2_hR_0 c2_hR_1 c2_hR_2 c2_hR_3
  obtain ⟨c3_hR_0, c3_hR_1, c3_hR_2, c3_hR_3⟩ := hR.quad
  go_wp2_with fail
  refine (hN2 _).mono ?_
  rintro e w3 ⟨rfl, b3⟩
  replace ha := ha.below b3
  replace hR := hR.below b3 hR.lt
  replace hB := hB.trans (b3.mono hB.size)
  clear c3_hR_0 c3_hR_1 c3_hR_2 c3_hR_3
  obtain ⟨c4_hR_0, c4_hR_1, c4_hR_2, c4_hR_3⟩ := hR.quad
  go_wp2
  go_loop [9, 10, 11] (fun so al i => ∃ j : Nat, j ≤ cs.length ∧ i = .int .i64 j ∧ so = .bool ((cs.take j).any P) ∧ al = .bool ((cs.take j).all Q)) (fun _ _ i => cs.length - (intOf i).toNat)
  case atStart => exact ⟨0, by omega, rfl, by simp, by simp⟩
  case round =>
    obtain ⟨j, hj, rfl, rfl, rfl⟩ := hrel
    by_cases hlt : j < cs.length
    · obtain ⟨ad, rfl, hc⟩ := ha.at_ hlt
      have i0 : (0 : Int) ≤ (j : Int) := by omega
      have i1 : (j : Int) < (cs.length : Int) := by omega
      have HA := Lib.hid (show (cs.take (j + 1)).any P = ((cs.take j).any P || (decide (yat cs j = c1) || (decide (e2 = 0) && decide (yat cs j = c2)))) by rw [yat_snoc_take cs j hlt, List.any_append, ← HP.out (yat cs j)]; simp)
      have HL := Lib.hid (show (cs.take (j + 1)).all Q = ((cs.take j).all Q && decide (yat cs j = c0)) by rw [yat_snoc_take cs j hlt, List.all_append, ← HQ.out (yat cs j)]; simp)
      have d0 : ((yat cs j : Int) == (c0 : Int)) = decide (yat cs j = c0) := by by_cases h : yat cs j = c0 <;> simp [h]; omega
      have d1 : ((yat cs j : Int) == (c1 : Int)) = decide (yat cs j = c1) := by by_cases h : yat cs j = c1 <;> simp [h]; omega
      have d2 : ((yat cs j : Int) == (c2 : Int)) = decide (yat cs j = c2) := by by_cases h : yat cs j = c2 <;> simp [h]; omega
      generalize (cs.take j).any P = sm at *
      generalize (cs.take j).all Q = al at *
      generalize decide (yat cs j = c0) = b0 at *
      generalize decide (yat cs j = c1) = b1 at *
      generalize decide (yat cs j = c2) = b2 at *
      generalize yat cs j = x at *
      cases sm <;> cases b1 <;> cases al <;> rcases ce with rfl | rfl
      all_goals
        go_wp2
        go_round
        case rel => exact ⟨j + 1, by omega, by go_num, by rw [HA.out]; simp, by rw [HL.out]; simp⟩
        case measure => simp [intOf]; omega
    · obtain rfl : j = cs.length := by omega
      rw [List.take_length]
      generalize cs.any P = sm at *
      generalize cs.all Q = al at *
      by_cases hs : s = 0
      · have hs1 : (s == 0) = true := by simpa using hs
        have hs2 : decide (s = 0) = true := by simpa using hs
        have HR2 := Lib.hid (show r = al by rw [HR.out, if_pos hs, hs]; simp)
        clear hs
        go_wp2
        go_ret
        exact ⟨ret_bool HR2.out.symm, hB⟩
      · have hs1 : (s == 0) = false := by simpa using hs
        have hs2 : decide (s = 0) = false := by simpa using hs
        have hs3 : decide (0 < s) = decide (0 ≤ s) := by rw [decide_eq_decide]; omega
        have HR2 := Lib.hid (show r = (decide (0 ≤ s) && sm) by rw [HR.out, if_neg hs])
        clear hs
        by_cases h0 : 0 ≤ s
        · have hs4 : decide (0 < s) = true := by rw [hs3]; exact decide_eq_true h0
          have HR3 := Lib.hid (show r = sm by rw [HR2.out, decide_eq_true h0, Bool.true_and])
          clear hs3 h0
          go_wp2
          go_ret
          exact ⟨ret_bool (by rw [HR3.out]), hB⟩
        · have hs4 : decide (0 < s) = false := by rw [hs3]; exact decide_eq_false h0
          have HR3 := Lib.hid (show r = false by rw [HR2.out, decide_eq_false h0, Bool.false_and])
          clear hs3 h0
          go_wp2
          go_ret
          exact ⟨ret_bool (by rw [HR3.out]), hB⟩
set_option maxRecDepth 100000 in
set_option maxHeartbeats 4000000 in
theorem rbright_low (v : Value) (k s : Int) (cs : List Nat) (wd : List Int) (w : World) (h : IsBk w v k s cs wd) (h1 : cs.length ≤ 281474976710656) (h2 : wd.length ≤ 17592186044416) (hk : k < 0) :
    Calls Tryz.prog 23 #[v] w fun e w' => e = .returned (.bool false) ∧ Below w.heap.size w w' := by
  obtain ⟨a, b, rfl, ha, hb⟩ := h
  obtain ⟨Aa, Ca, rfl, _, _⟩ := id ha.form
  obtain ⟨Ab, Cb, rfl, _, _⟩ := id hb.form
  have hC := fun w h => rcodes_any (.agg #[.int .i64 k, .int .i64 s, .slice Aa cs.length Ca, .slice Ab wd.length Cb]) k s cs wd w h
  have hk1 : decide (k < 0) = true := decide_eq_true hk
  obtain ⟨W0, hW, hR, hB⟩ := box1 w 43 #[.int .i64 k, .int .i64 s, .slice Aa cs.length Ca, .slice Ab wd.length Cb]
  obtain ⟨g, hg⟩ : ∃ g, g = w.heap.size := ⟨_, rfl⟩
  have hW' := Lib.hid (And.intro hW hg)
  rw [← hg] at hR
  have hgw : w.heap.size ≤ g := by omega
  clear hW hg
  skip
  replace ha := ha.below hB
  replace hb := hb.below hB
  obtain ⟨c1_hR_0, c1_hR_1, c1_hR_2, c1_hR_3⟩ := hR.quad
  go_enter Tryz.func23, Tryz.ntmps23
  go_wp2
  rw [← hW'.out.1]
  go_ret
  exact ⟨rfl, hB⟩
set_option maxRecDepth 100000 in
set_option maxHeartbeats 4000000 in
theorem rbright_high (v : Value) (k s : Int) (cs : List Nat) (wd : List Int) (w : World) (h : IsBk w v k s cs wd) (h1 : cs.length ≤ 281474976710656) (h2 : wd.length ≤ 17592186044416) (hk : 4 < k) :
    Calls Tryz.prog 23 #[v] w fun e w' => e = .returned (.bool false) ∧ Below w.heap.size w w' := by
  obtain ⟨a, b, rfl, ha, hb⟩ := h
  obtain ⟨Aa, Ca, rfl, _, _⟩ := id ha.form
  obtain ⟨Ab, Cb, rfl, _, _⟩ := id hb.form
  have hC := fun w h => rcodes_any (.agg #[.int .i64 k, .int .i64 s, .slice Aa cs.length Ca, .slice Ab wd.length Cb]) k s cs wd w h
  have hk1 : decide (k < 0) = false := decide_eq_false (by omega)
  have hk2 : decide (4 < k) = true := decide_eq_true hk
  have hk3 : ¬ k < 0 := by omega
  obtain ⟨W0, hW, hR, hB⟩ := box1 w 43 #[.int .i64 k, .int .i64 s, .slice Aa cs.length Ca, .slice Ab wd.length Cb]
  obtain ⟨g, hg⟩ : ∃ g, g = w.heap.size := ⟨_, rfl⟩
  have hW' := Lib.hid (And.intro hW hg)
  rw [← hg] at hR
  have hgw : w.heap.size ≤ g := by omega
  clear hW hg
  skip
  replace ha := ha.below hB
  replace hb := hb.below hB
  obtain ⟨c1_hR_0, c1_hR_1, c1_hR_2, c1_hR_3⟩ := hR.quad
  go_enter Tryz.func23, Tryz.ntmps23
  go_wp2
  rw [← hW'.out.1]
  go_ret
  exact ⟨rfl, hB⟩
set_option maxRecDepth 100000 in
set_option maxHeartbeats 4000000 in
theorem rbright_many (v : Value) (k s : Int) (cs : List Nat) (wd : List Int) (w : World) (h : IsBk w v k s cs wd) (h1 : cs.length ≤ 281474976710656) (h2 : wd.length ≤ 17592186044416) (hk : 0 ≤ k ∧ k ≤ 4) (hf : ¬ cs.length + wd.length ≤ 4096) :
    Calls Tryz.prog 23 #[v] w fun e w' => e = .returned (.bool false) ∧ Below w.heap.size w w' := by
  obtain ⟨a, b, rfl, ha, hb⟩ := h
  obtain ⟨Aa, Ca, rfl, _, _⟩ := id ha.form
  obtain ⟨Ab, Cb, rfl, _, _⟩ := id hb.form
  have hC := fun w h => rcodes_any (.agg #[.int .i64 k, .int .i64 s, .slice Aa cs.length Ca, .slice Ab wd.length Cb]) k s cs wd w h
  have hk1 : decide (k < 0) = false := decide_eq_false (by omega)
  have hk2 : decide (4 < k) = false := decide_eq_false (by omega)
  have hk3 : ¬ k < 0 := by omega
  have hk4 : ¬ 4 < k := by omega
  have l1 : (cs.length : Int) ≤ 281474976710656 := by omega
  have l2 : (wd.length : Int) ≤ 17592186044416 := by omega
  have hl1 : decide ((4096 : Int) < (cs.length : Int) + (wd.length : Int)) = true := decide_eq_true (by omega)
  have hl2 : (4096 : Int) < (cs.length : Int) + (wd.length : Int) := by omega
  obtain ⟨W0, hW, hR, hB⟩ := box1 w 43 #[.int .i64 k, .int .i64 s, .slice Aa cs.length Ca, .slice Ab wd.length Cb]
  obtain ⟨g, hg⟩ : ∃ g, g = w.heap.size := ⟨_, rfl⟩
  have hW' := Lib.hid (And.intro hW hg)
  rw [← hg] at hR
  have hgw : w.heap.size ≤ g := by omega
  clear hW hg
  skip
  replace ha := ha.below hB
  replace hb := hb.below hB
  obtain ⟨c1_hR_0, c1_hR_1, c1_hR_2, c1_hR_3⟩ := hR.quad
  go_enter Tryz.func23, Tryz.ntmps23
  go_wp2
  rw [← hW'.out.1]
  go_ret
  exact ⟨rfl, hB⟩
set_option maxRecDepth 100000 in
set_option maxHeartbeats 4000000 in
theorem rbright_cwide (v : Value) (k s : Int) (cs : List Nat) (wd : List Int) (w : World) (h : IsBk w v k s cs wd) (h1 : cs.length ≤ 281474976710656) (h2 : wd.length ≤ 17592186044416) (hk : 0 ≤ k ∧ k ≤ 3) (hf : cs.length + wd.length ≤ 4096) (hw : wd ≠ []) :
    Calls Tryz.prog 23 #[v] w fun e w' => e = .returned (.bool false) ∧ Below w.heap.size w w' := by
  obtain ⟨a, b, rfl, ha, hb⟩ := h
  obtain ⟨Aa, Ca, rfl, _, _⟩ := id ha.form
  obtain ⟨Ab, Cb, rfl, _, _⟩ := id hb.form
  have hC := fun w h => rcodes_any (.agg #[.int .i64 k, .int .i64 s, .slice Aa cs.length Ca, .slice Ab wd.length Cb]) k s cs wd w h
  have hk1 : decide (k < 0) = false := decide_eq_false (by omega)
  have hk2 : decide (4 < k) = false := decide_eq_false (by omega)
  have hk3 : ¬ k < 0 := by omega
  have hk4 : ¬ 4 < k := by omega
  have l1 : (cs.length : Int) ≤ 281474976710656 := by omega
  have l2 : (wd.length : Int) ≤ 17592186044416 := by omega
  have hl1 : decide ((4096 : Int) < (cs.length : Int) + (wd.length : Int)) = false := decide_eq_false (by omega)
  have hl2 : ¬ (4096 : Int) < (cs.length : Int) + (wd.length : Int) := by omega
  have hk5 : (k != 4) = true := by rw [bne_iff_ne]; omega
  have hk6 : decide (k = 4) = false := decide_eq_false (by omega)
  have hw0 : wd.length ≠ 0 := fun h => hw (List.eq_nil_of_length_eq_zero h)
  have hw1 : ((wd.length : Int) == 0) = false := by rw [beq_eq_false_iff_ne]; omega
  have hw2 : decide (wd.length = 0) = false := decide_eq_false hw0
  obtain ⟨W0, hW, hR, hB⟩ := box1 w 43 #[.int .i64 k, .int .i64 s, .slice Aa cs.length Ca, .slice Ab wd.length Cb]
  obtain ⟨g, hg⟩ : ∃ g, g = w.heap.size := ⟨_, rfl⟩
  have hW' := Lib.hid (And.intro hW hg)
  rw [← hg] at hR
  have hgw : w.heap.size ≤ g := by omega
  clear hW hg
  skip
  replace ha := ha.below hB
  replace hb := hb.below hB
  obtain ⟨c1_hR_0, c1_hR_1, c1_hR_2, c1_hR_3⟩ := hR.quad
  go_enter Tryz.func23, Tryz.ntmps23
  go_wp2
  rw [← hW'.out.1]
  go_ret
  exact ⟨rfl, hB⟩
set_option maxRecDepth 100000 in
set_option maxHeartbeats 4000000 in
theorem rbright_coded (v : Value) (k s : Int) (cs : List Nat) (wd : List Int) (w : World) (h : IsBk w v k s cs wd) (h1 : cs.length ≤ 281474976710656) (h2 : wd.length ≤ 17592186044416) (hk : 0 ≤ k ∧ k ≤ 3) (hf : cs.length ≤ 4096) (hw : wd = []) :
    Calls Tryz.prog 23 #[v] w fun e w' => e = .returned (.bool (decide (0 ≤ s) && (if s = 0 then cs.all (fun c => decide (c = codeOf k 0 1)) else cs.contains (codeOf k 1 1) || (decide (codeE k (-1) 1 = 0) && cs.contains (codeOf k (-1) 1))))) ∧ Below w.heap.size w w' := by
  obtain ⟨a, b, rfl, ha, hb⟩ := h
  obtain ⟨Aa, Ca, rfl, _, _⟩ := id ha.form
  obtain ⟨Ab, Cb, rfl, _, _⟩ := id hb.form
  have hC := fun w h => rcodes_any (.agg #[.int .i64 k, .int .i64 s, .slice Aa cs.length Ca, .slice Ab 0 Cb]) k s cs wd w h
  have hk1 : decide (k < 0) = false := decide_eq_false (by omega)
  have hk2 : decide (4 < k) = false := decide_eq_false (by omega)
  have hk3 : ¬ k < 0 := by omega
  have hk4 : ¬ 4 < k := by omega
  have l1 : (cs.length : Int) ≤ 281474976710656 := by omega
  rw [show wd.length = 0 from by rw [hw]; rfl] at *
  have hl1 : decide ((4096 : Int) < (cs.length : Int)) = false := decide_eq_false (by omega)
  have hl2 : ¬ (4096 : Int) < (cs.length : Int) := by omega
  have hk5 : (k != 4) = true := by rw [bne_iff_ne]; omega
  have hk6 : decide (k = 4) = false := decide_eq_false (by omega)
  generalize (if s = 0 then cs.all (fun c => decide (c = codeOf k 0 1)) else cs.contains (codeOf k 1 1) || (decide (codeE k (-1) 1 = 0) && cs.contains (codeOf k (-1) 1))) = r at *
  obtain ⟨W0, hW, hR, hB⟩ := box1 w 43 #[.int .i64 k, .int .i64 s, .slice Aa cs.length Ca, .slice Ab 0 Cb]
  obtain ⟨g, hg⟩ : ∃ g, g = w.heap.size := ⟨_, rfl⟩
  have hW' := Lib.hid (And.intro hW hg)
  rw [← hg] at hR
  have hgw : w.heap.size ≤ g := by omega
  clear hW hg
  skip
  replace ha := ha.below hB
  replace hb := hb.below hB
  obtain ⟨c1_hR_0, c1_hR_1, c1_hR_2, c1_hR_3⟩ := hR.quad
  go_enter Tryz.func23, Tryz.ntmps23
  go_wp2_with fail
  rw [← hW'.out.1, ← hW'.out.2]
  refine (hC _ ⟨_, _, rfl, ha, hb⟩).mono ?_
  rintro e w1 ⟨rfl, b1⟩
  replace ha := ha.below b1
  replace hb := hb.below b1
  replace hR := hR.below b1 hR.lt
  replace hB := hB.trans (b1.mono hB.size)
  clear c1_hR_0 c1_hR_1 c1_hR_2 c1_hR_3
  obtain ⟨c2_hR_0, c2_hR_1, c2_hR_2, c2_hR_3⟩ := hR.quad
  go_wp2
  go_ret
  exact ⟨by simp, hB⟩
set_option maxRecDepth 100000 in
set_option maxHeartbeats 4000000 in
theorem rbright_wide (v : Value) (k s : Int) (cs : List Nat) (wd : List Int) (w : World) (h : IsBk w v k s cs wd) (h1 : cs.length ≤ 281474976710656) (h2 : wd.length ≤ 17592186044416) (hk : k = 4) (hf : cs.length + wd.length ≤ 4096) :
    Calls Tryz.prog 23 #[v] w fun e w' => e = .returned (.bool (blkR 4 s cs wd)) ∧ Below w.heap.size w w' := by
  obtain ⟨a, b, rfl, ha, hb⟩ := h
  obtain ⟨Aa, Ca, rfl, _, _⟩ := id ha.form
  obtain ⟨Ab, Cb, rfl, _, _⟩ := id hb.form
  have hC := fun w h => rcodes_any (.agg #[.int .i64 4, .int .i64 s, .slice Aa cs.length Ca, .slice Ab wd.length Cb]) k s cs wd w h
  have hl1 : decide ((4096 : Int) < (cs.length : Int) + (wd.length : Int)) = false := decide_eq_false (by omega)
  have hl2 : ¬ (4096 : Int) < (cs.length : Int) + (wd.length : Int) := by omega
  subst hk
  have l1 : (cs.length : Int) ≤ 281474976710656 := by omega
  have l2 : (wd.length : Int) ≤ 17592186044416 := by omega
  obtain ⟨r, hr⟩ : ∃ r, r = blkR 4 s cs wd := ⟨_, rfl⟩
  rw [← hr]
  have HR : Hid (r = (decide (s = 0) && (((cs.length : Int) == 0) && !decide ((-9223372036854775808 : Int) ∈ wd)))) := Lib.hid (by
    rw [hr]; unfold blkR
    rw [decide_eq_true hf, Bool.true_and, if_pos rfl, List.contains_eq_mem]
    congr 2
    cases cs <;> simp; omega)
  clear hr hC
  have hs4 : ((s == 0) = true ∧ decide (s = 0) = true) ∨ ((s == 0) = false ∧ decide (s = 0) = false) := by
    by_cases h : s = 0
    · left; simp [h]
    · right; simp [h]
  obtain ⟨W0, hW, hR, hB⟩ := box1 w 43 #[.int .i64 4, .int .i64 s, .slice Aa cs.length Ca, .slice Ab wd.length Cb]
  obtain ⟨g, hg⟩ : ∃ g, g = w.heap.size := ⟨_, rfl⟩
  have hW' := Lib.hid (And.intro hW hg)
  rw [← hg] at hR
  have hgw : w.heap.size ≤ g := by omega
  clear hW hg
  skip
  replace ha := ha.below hB
  replace hb := hb.below hB
  obtain ⟨c1_hR_0, c1_hR_1, c1_hR_2, c1_hR_3⟩ := hR.quad
  go_enter Tryz.func23, Tryz.ntmps23
  go_wp2
  rw [← hW'.out.1, ← hW'.out.2]
  go_loop [3] (fun i => ∃ j : Nat, j ≤ wd.length ∧ i = .int .i64 j ∧ Hid (-9223372036854775808 ∉ wd.take j)) (fun i => wd.length - (intOf i).toNat)
  case atStart => exact ⟨0, by omega, rfl, Lib.hid (by simp)⟩
  case round =>
    obtain ⟨j, hj, rfl, hno⟩ := hrel
    by_cases hlt : j < wd.length
    · obtain ⟨ad, rfl, hc⟩ := hb.at_ hlt
      have i0 : (0 : Int) ≤ (j : Int) := by omega
      have i1 : (j : Int) < (wd.length : Int) := by omega
      have HS := Lib.hid (iat_snoc_take wd j hlt)
      have HM := Lib.hid (iat_mem hlt)
      generalize iat wd j = x at *
      by_cases hx : x = -9223372036854775808
      · have hx1 : (x == -9223372036854775808) = true := by simpa using hx
        have hx2 : decide (x = -9223372036854775808) = true := by simpa using hx
        have HT := Lib.hid (show decide ((-9223372036854775808 : Int) ∈ wd) = true from decide_eq_true (by rw [← hx]; exact HM.out))
        clear hx
        go_wp2
        go_ret
        exact ⟨ret_bool (by rw [HR.out, HT.out]; simp), hB⟩
      · have hx1 : (x == -9223372036854775808) = false := by simpa using hx
        have hx2 : decide (x = -9223372036854775808) = false := by simpa using hx
        have HS2 := Lib.hid (take_not hno.out HS.out (fun h => hx h.symm))
        clear hx
        go_wp2
        go_round
        case rel => exact ⟨j + 1, by omega, by go_num, HS2⟩
        case measure => simp [intOf]; omega
    · obtain rfl : j = wd.length := by omega
      have HF := Lib.hid (show decide ((-9223372036854775808 : Int) ∈ wd) = false from decide_eq_false (by have := hno.out; rwa [List.take_length] at this))
      rcases hs4 with ⟨hs1, hs2⟩ | ⟨hs1, hs2⟩
      all_goals
        go_wp2
        go_ret
        exact ⟨ret_bool (by rw [HR.out, HF.out, hs2]; simp), hB⟩
/-- is a block right? -/
theorem rbright_any (v : Value) (k s : Int) (cs : List Nat) (wd : List Int) (w : World) (h : IsBk w v k s cs wd) (h1 : cs.length ≤ 281474976710656) (h2 : wd.length ≤ 17592186044416) :
    Calls Tryz.prog 23 #[v] w fun e w' => e = .returned (.bool (blkR k s cs wd)) ∧ Below w.heap.size w w' := by
  by_cases hk : 0 ≤ k ∧ k ≤ 4
  · by_cases hf : cs.length + wd.length ≤ 4096
    · by_cases hk4 : k = 4
      · subst hk4
        exact rbright_wide v 4 s cs wd w h h1 h2 rfl hf
      · by_cases hw : wd = []
        · have e : blkR k s cs wd = (decide (0 ≤ s) && (if s = 0 then cs.all (fun c => decide (c = codeOf k 0 1)) else cs.contains (codeOf k 1 1) || (decide (codeE k (-1) 1 = 0) && cs.contains (codeOf k (-1) 1)))) := by
            unfold blkR; rw [decide_eq_true hf, Bool.true_and, if_neg hk4, decide_eq_true (show 0 ≤ k ∧ k ≤ 3 by omega), Bool.true_and, decide_eq_true hw, Bool.true_and]
          rw [e]
          exact rbright_coded v k s cs wd w h h1 h2 (by omega) (by omega) hw
        · have e : blkR k s cs wd = false := by
            unfold blkR; rw [decide_eq_true hf, Bool.true_and, if_neg hk4, decide_eq_true (show 0 ≤ k ∧ k ≤ 3 by omega), Bool.true_and, decide_eq_false hw, Bool.false_and]
          rw [e]
          exact rbright_cwide v k s cs wd w h h1 h2 (by omega) hf hw
    · have e : blkR k s cs wd = false := by unfold blkR; rw [decide_eq_false hf, Bool.false_and]
      rw [e]
      exact rbright_many v k s cs wd w h h1 h2 hk hf
  · have e : blkR k s cs wd = false := by
      unfold blkR; rw [if_neg (by omega), decide_eq_false (show ¬ (0 ≤ k ∧ k ≤ 3) by omega), Bool.false_and, Bool.and_false]
    rw [e]
    by_cases h0 : k < 0
    · exact rbright_low v k s cs wd w h h1 h2 h0
    · exact rbright_high v k s cs wd w h h1 h2 (by omega)
end Go.Proofs.YtochabikpaoalaaGreat
