/- Package block: of, Right, Load, Same. Printed by gen_blk3.py. -/
import Derived.Test.YtgcebmgmmhdcpaaBlock2
namespace Go.Proofs.Ytgcebmgmmhdcpaa
open Go.RowKit
attribute [local go_sem ↓] Go.wp_at_zero Go.wp_at_succ

set_option maxHeartbeats 2000000 in
theorem of_wide (v : Value) (k s : Int) (cs : List Nat) (wd : List Int) (w : World) (h : IsBk w v k s cs wd) (hk : k = 4) :
    Calls Try.prog 18 #[v] w fun e w' => e = .returned (.iface 65 v) ∧ Below w.heap.size w w' := by
  obtain ⟨a, b, rfl, ha, hb⟩ := h
  obtain ⟨Aa, Ca, rfl, _, _⟩ := id ha.form
  obtain ⟨Ab, Cb, rfl, _, _⟩ := id hb.form
  have hk1 : (k == 4) = true := by simpa using hk
  have hk2 : decide (k = 4) = true := by simpa using hk
  clear hk
  obtain ⟨W0, hW, hR, hB⟩ := box1 w 27 #[.int .i64 k, .int .i64 s, .slice Aa cs.length Ca, .slice Ab wd.length Cb]
  obtain ⟨g, hg⟩ : ∃ g, g = w.heap.size := ⟨_, rfl⟩
  have hW' := Lib.hid (And.intro hW hg)
  rw [← hg] at hR
  have hgw : w.heap.size ≤ g := by omega
  clear hW hg
  skip
  obtain ⟨c1_hR_0, c1_hR_1, c1_hR_2, c1_hR_3⟩ := hR.quad
  go_enter Try.func18, Try.ntmps18
  go_wp2
  rw [← hW'.out.1]
  go_ret
  exact ⟨rfl, hB⟩
set_option maxHeartbeats 2000000 in
theorem of_coded (v : Value) (k s : Int) (cs : List Nat) (wd : List Int) (w : World) (h : IsBk w v k s cs wd) (hk : k ≠ 4) :
    Calls Try.prog 18 #[v] w fun e w' => e = .returned (.iface 66 v) ∧ Below w.heap.size w w' := by
  obtain ⟨a, b, rfl, ha, hb⟩ := h
  obtain ⟨Aa, Ca, rfl, _, _⟩ := id ha.form
  obtain ⟨Ab, Cb, rfl, _, _⟩ := id hb.form
  have hk1 : (k == 4) = false := by simpa using hk
  have hk2 : decide (k = 4) = false := by simpa using hk
  clear hk
  obtain ⟨W0, hW, hR, hB⟩ := box1 w 27 #[.int .i64 k, .int .i64 s, .slice Aa cs.length Ca, .slice Ab wd.length Cb]
  obtain ⟨g, hg⟩ : ∃ g, g = w.heap.size := ⟨_, rfl⟩
  have hW' := Lib.hid (And.intro hW hg)
  rw [← hg] at hR
  have hgw : w.heap.size ≤ g := by omega
  clear hW hg
  skip
  obtain ⟨c1_hR_0, c1_hR_1, c1_hR_2, c1_hR_3⟩ := hR.quad
  go_enter Try.func18, Try.ntmps18
  go_wp2
  rw [← hW'.out.1]
  go_ret
  exact ⟨rfl, hB⟩
set_option maxHeartbeats 2000000 in
theorem load_wide (v : Value) (k s : Int) (cs : List Nat) (wd : List Int) (w : World) (h : IsBk w v k s cs wd) (hk : k = 4) (h2 : wd.length ≤ 17592186044416) :
    Calls Try.prog 7 #[v] w fun e w' => ∃ v', e = .returned v' ∧ IsI w' v' wd ∧ Below w.heap.size w w' := by
  obtain ⟨a, b, rfl, ha, hb⟩ := h
  obtain ⟨Aa, Ca, rfl, _, _⟩ := id ha.form
  obtain ⟨Ab, Cb, rfl, _, _⟩ := id hb.form
  have hOf := fun w h => of_wide (.agg #[.int .i64 k, .int .i64 s, .slice Aa cs.length Ca, .slice Ab wd.length Cb]) k s cs wd w h hk
  have hC := fun w h => pload_any (.agg #[.int .i64 k, .int .i64 s, .slice Aa cs.length Ca, .slice Ab wd.length Cb]) k s cs wd w h h2
  clear hk
  obtain ⟨W0, hW, hR, hB⟩ := box1 w 27 #[.int .i64 k, .int .i64 s, .slice Aa cs.length Ca, .slice Ab wd.length Cb]
  obtain ⟨g, hg⟩ : ∃ g, g = w.heap.size := ⟨_, rfl⟩
  have hW' := Lib.hid (And.intro hW hg)
  rw [← hg] at hR
  have hgw : w.heap.size ≤ g := by omega
  clear hW hg
  skip
  replace ha := ha.below hB
  replace hb := hb.below hB
  obtain ⟨c1_hR_0, c1_hR_1, c1_hR_2, c1_hR_3⟩ := hR.quad
  go_enter Try.func7, Try.ntmps7
  go_wp2_with fail
  rw [← hW'.out.1, ← hW'.out.2]
  refine (hOf _ ⟨_, _, rfl, ha, hb⟩).mono ?_
  rintro e w1 ⟨rfl, b1⟩
  replace ha := ha.below b1
  replace hb := hb.below b1
  replace hR := hR.below b1 hR.lt
  replace hB := hB.trans (b1.mono hB.size)
  clear c1_hR_0 c1_hR_1 c1_hR_2 c1_hR_3
  obtain ⟨c2_hR_0, c2_hR_1, c2_hR_2, c2_hR_3⟩ := hR.quad
  go_wp2_with fail
  refine (hC _ ⟨_, _, rfl, ha, hb⟩).mono ?_
  rintro e w2 ⟨v9, rfl, h9, b2⟩
  replace ha := ha.below b2
  replace hb := hb.below b2
  replace hR := hR.below b2 hR.lt
  replace hB := hB.trans (b2.mono hB.size)
  clear c2_hR_0 c2_hR_1 c2_hR_2 c2_hR_3
  obtain ⟨c3_hR_0, c3_hR_1, c3_hR_2, c3_hR_3⟩ := hR.quad
  obtain ⟨A9, C9, rfl, _, _⟩ := id h9.form
  go_wp2
  go_ret
  exact ⟨_, rfl, h9, hB⟩
set_option maxHeartbeats 2000000 in
theorem load_coded (v : Value) (n : Nat) (s : Int) (cs : List Nat) (wd : List Int) (w : World) (h : IsBk w v n s cs wd) (hn : n < 4) (hs0 : 0 ≤ s) (hs1 : s ≤ 9223372036854775807) (hcl : cs.length ≤ 1000000) :
    Calls Try.prog 7 #[v] w fun e w' => ∃ v', e = .returned v' ∧ IsI w' v' (loadC n s cs) ∧ Below w.heap.size w w' := by
  obtain ⟨a, b, rfl, ha, hb⟩ := h
  obtain ⟨Aa, Ca, rfl, _, _⟩ := id ha.form
  obtain ⟨Ab, Cb, rfl, _, _⟩ := id hb.form
  have hk : (n : Int) ≠ 4 := by omega
  have hOf := fun w h => of_coded (.agg #[.int .i64 n, .int .i64 s, .slice Aa cs.length Ca, .slice Ab wd.length Cb]) n s cs wd w h hk
  have hC := fun w h => cload_any (.agg #[.int .i64 n, .int .i64 s, .slice Aa cs.length Ca, .slice Ab wd.length Cb]) n s cs wd w hn hs0 hs1 hcl h
  clear hk
  obtain ⟨W0, hW, hR, hB⟩ := box1 w 27 #[.int .i64 n, .int .i64 s, .slice Aa cs.length Ca, .slice Ab wd.length Cb]
  obtain ⟨g, hg⟩ : ∃ g, g = w.heap.size := ⟨_, rfl⟩
  have hW' := Lib.hid (And.intro hW hg)
  rw [← hg] at hR
  have hgw : w.heap.size ≤ g := by omega
  clear hW hg
  skip
  replace ha := ha.below hB
  replace hb := hb.below hB
  obtain ⟨c1_hR_0, c1_hR_1, c1_hR_2, c1_hR_3⟩ := hR.quad
  go_enter Try.func7, Try.ntmps7
  go_wp2_with fail
  rw [← hW'.out.1, ← hW'.out.2]
  refine (hOf _ ⟨_, _, rfl, ha, hb⟩).mono ?_
  rintro e w1 ⟨rfl, b1⟩
  replace ha := ha.below b1
  replace hb := hb.below b1
  replace hR := hR.below b1 hR.lt
  replace hB := hB.trans (b1.mono hB.size)
  clear c1_hR_0 c1_hR_1 c1_hR_2 c1_hR_3
  obtain ⟨c2_hR_0, c2_hR_1, c2_hR_2, c2_hR_3⟩ := hR.quad
  go_wp2_with fail
  refine (hC _ ⟨_, _, rfl, ha, hb⟩).mono ?_
  rintro e w2 ⟨v9, rfl, h9, b2⟩
  replace ha := ha.below b2
  replace hb := hb.below b2
  replace hR := hR.below b2 hR.lt
  replace hB := hB.trans (b2.mono hB.size)
  clear c2_hR_0 c2_hR_1 c2_hR_2 c2_hR_3
  obtain ⟨c3_hR_0, c3_hR_1, c3_hR_2, c3_hR_3⟩ := hR.quad
  obtain ⟨A9, C9, rfl, _, _⟩ := id h9.form
  go_wp2
  go_ret
  exact ⟨_, rfl, h9, hB⟩
set_option maxHeartbeats 2000000 in
theorem bright_few (v : Value) (k s : Int) (cs : List Nat) (wd : List Int) (w : World) (h : IsBk w v k s cs wd) (h1 : cs.length ≤ 281474976710656) (h2 : wd.length ≤ 17592186044416) (hf : ¬ cs.length + wd.length ≤ 4096) :
    Calls Try.prog 10 #[v] w fun e w' => e = .returned (.bool (blkR k s cs wd)) ∧ Below w.heap.size w w' := by
  obtain ⟨a, b, rfl, ha, hb⟩ := h
  obtain ⟨Aa, Ca, rfl, _, _⟩ := id ha.form
  obtain ⟨Ab, Cb, rfl, _, _⟩ := id hb.form
  have hLn := fun w h => blen_any (.agg #[.int .i64 k, .int .i64 s, .slice Aa cs.length Ca, .slice Ab wd.length Cb]) k s cs wd w h h1 h2
  rw [show blkR k s cs wd = false by unfold blkR; rw [decide_eq_false hf, Bool.false_and]]
  have hl1 : decide ((cs.length : Int) + (wd.length : Int) ≤ 4096) = false := decide_eq_false (by omega)
  obtain ⟨W0, hW, hR, hB⟩ := box1 w 27 #[.int .i64 k, .int .i64 s, .slice Aa cs.length Ca, .slice Ab wd.length Cb]
  obtain ⟨g, hg⟩ : ∃ g, g = w.heap.size := ⟨_, rfl⟩
  have hW' := Lib.hid (And.intro hW hg)
  rw [← hg] at hR
  have hgw : w.heap.size ≤ g := by omega
  clear hW hg
  skip
  replace ha := ha.below hB
  replace hb := hb.below hB
  obtain ⟨c1_hR_0, c1_hR_1, c1_hR_2, c1_hR_3⟩ := hR.quad
  go_enter Try.func10, Try.ntmps10
  go_wp2_with fail
  rw [← hW'.out.1, ← hW'.out.2]
  refine (hLn _ ⟨_, _, rfl, ha, hb⟩).mono ?_
  rintro e w1 ⟨rfl, b1⟩
  replace ha := ha.below b1
  replace hb := hb.below b1
  replace hR := hR.below b1 hR.lt
  replace hB := hB.trans (b1.mono hB.size)
  clear c1_hR_0 c1_hR_1 c1_hR_2 c1_hR_3
  obtain ⟨c2_hR_0, c2_hR_1, c2_hR_2, c2_hR_3⟩ := hR.quad
  go_wp2
  go_ret
  exact ⟨rfl, hB⟩
set_option maxHeartbeats 2000000 in
theorem bright_wide (v : Value) (k s : Int) (cs : List Nat) (wd : List Int) (w : World) (h : IsBk w v k s cs wd) (h1 : cs.length ≤ 281474976710656) (h2 : wd.length ≤ 17592186044416) (hf : cs.length + wd.length ≤ 4096) (hk : k = 4) :
    Calls Try.prog 10 #[v] w fun e w' => e = .returned (.bool (blkR k s cs wd)) ∧ Below w.heap.size w w' := by
  obtain ⟨a, b, rfl, ha, hb⟩ := h
  obtain ⟨Aa, Ca, rfl, _, _⟩ := id ha.form
  obtain ⟨Ab, Cb, rfl, _, _⟩ := id hb.form
  have hLn := fun w h => blen_any (.agg #[.int .i64 k, .int .i64 s, .slice Aa cs.length Ca, .slice Ab wd.length Cb]) k s cs wd w h h1 h2
  have hOf := fun w h => of_wide (.agg #[.int .i64 k, .int .i64 s, .slice Aa cs.length Ca, .slice Ab wd.length Cb]) k s cs wd w h hk
  have hC := fun w h => pright_any (.agg #[.int .i64 k, .int .i64 s, .slice Aa cs.length Ca, .slice Ab wd.length Cb]) k s cs wd w h
  rw [show blkR k s cs wd = (decide (s = 0) && (decide (cs = []) && !wd.contains (-9223372036854775808))) by unfold blkR; rw [decide_eq_true hf, Bool.true_and, if_pos hk]]
  generalize (decide (s = 0) && (decide (cs = []) && !wd.contains (-9223372036854775808))) = r at *
  clear hk
  have hl1 : decide ((cs.length : Int) + (wd.length : Int) ≤ 4096) = true := decide_eq_true (by omega)
  obtain ⟨W0, hW, hR, hB⟩ := box1 w 27 #[.int .i64 k, .int .i64 s, .slice Aa cs.length Ca, .slice Ab wd.length Cb]
  obtain ⟨g, hg⟩ : ∃ g, g = w.heap.size := ⟨_, rfl⟩
  have hW' := Lib.hid (And.intro hW hg)
  rw [← hg] at hR
  have hgw : w.heap.size ≤ g := by omega
  clear hW hg
  skip
  replace ha := ha.below hB
  replace hb := hb.below hB
  obtain ⟨c1_hR_0, c1_hR_1, c1_hR_2, c1_hR_3⟩ := hR.quad
  go_enter Try.func10, Try.ntmps10
  go_wp2_with fail
  rw [← hW'.out.1, ← hW'.out.2]
  refine (hLn _ ⟨_, _, rfl, ha, hb⟩).mono ?_
  rintro e w1 ⟨rfl, b1⟩
  replace ha := ha.below b1
  replace hb := hb.below b1
  replace hR := hR.below b1 hR.lt
  replace hB := hB.trans (b1.mono hB.size)
  clear c1_hR_0 c1_hR_1 c1_hR_2 c1_hR_3
  obtain ⟨c2_hR_0, c2_hR_1, c2_hR_2, c2_hR_3⟩ := hR.quad
  go_wp2_with fail
  refine (hOf _ ⟨_, _, rfl, ha, hb⟩).mono ?_
  rintro e w2 ⟨rfl, b2⟩
  replace ha := ha.below b2
  replace hb := hb.below b2
  replace hR := hR.below b2 hR.lt
  replace hB := hB.trans (b2.mono hB.size)
  clear c2_hR_0 c2_hR_1 c2_hR_2 c2_hR_3
  obtain ⟨c3_hR_0, c3_hR_1, c3_hR_2, c3_hR_3⟩ := hR.quad
  go_wp2_with fail
  refine (hC _ ⟨_, _, rfl, ha, hb⟩).mono ?_
  rintro e w3 ⟨rfl, b3⟩
  replace ha := ha.below b3
  replace hb := hb.below b3
  replace hR := hR.below b3 hR.lt
  replace hB := hB.trans (b3.mono hB.size)
  clear c3_hR_0 c3_hR_1 c3_hR_2 c3_hR_3
  obtain ⟨c4_hR_0, c4_hR_1, c4_hR_2, c4_hR_3⟩ := hR.quad
  go_wp2
  go_ret
  exact ⟨rfl, hB⟩
set_option maxHeartbeats 2000000 in
theorem bright_coded (v : Value) (k s : Int) (cs : List Nat) (wd : List Int) (w : World) (h : IsBk w v k s cs wd) (h1 : cs.length ≤ 281474976710656) (h2 : wd.length ≤ 17592186044416) (hf : cs.length + wd.length ≤ 4096) (hk : k ≠ 4) :
    Calls Try.prog 10 #[v] w fun e w' => e = .returned (.bool (blkR k s cs wd)) ∧ Below w.heap.size w w' := by
  obtain ⟨a, b, rfl, ha, hb⟩ := h
  obtain ⟨Aa, Ca, rfl, _, _⟩ := id ha.form
  obtain ⟨Ab, Cb, rfl, _, _⟩ := id hb.form
  have hLn := fun w h => blen_any (.agg #[.int .i64 k, .int .i64 s, .slice Aa cs.length Ca, .slice Ab wd.length Cb]) k s cs wd w h h1 h2
  have hOf := fun w h => of_coded (.agg #[.int .i64 k, .int .i64 s, .slice Aa cs.length Ca, .slice Ab wd.length Cb]) k s cs wd w h hk
  have hC := fun w h => cright_any (.agg #[.int .i64 k, .int .i64 s, .slice Aa cs.length Ca, .slice Ab wd.length Cb]) k s cs wd w h
  rw [show blkR k s cs wd = (decide (0 ≤ k ∧ k ≤ 3) && (decide (wd = []) && (decide (0 ≤ s) && (if s = 0 then cs.all (fun c => decide (c = codeOf k 0 1)) else cs.contains (codeOf k 1 1) || (decide (codeE k (-1) 1 = 0) && cs.contains (codeOf k (-1) 1)))))) by unfold blkR; rw [decide_eq_true hf, Bool.true_and, if_neg hk]]
  generalize (decide (0 ≤ k ∧ k ≤ 3) && (decide (wd = []) && (decide (0 ≤ s) && (if s = 0 then cs.all (fun c => decide (c = codeOf k 0 1)) else cs.contains (codeOf k 1 1) || (decide (codeE k (-1) 1 = 0) && cs.contains (codeOf k (-1) 1)))))) = r at *
  clear hk
  have hl1 : decide ((cs.length : Int) + (wd.length : Int) ≤ 4096) = true := decide_eq_true (by omega)
  obtain ⟨W0, hW, hR, hB⟩ := box1 w 27 #[.int .i64 k, .int .i64 s, .slice Aa cs.length Ca, .slice Ab wd.length Cb]
  obtain ⟨g, hg⟩ : ∃ g, g = w.heap.size := ⟨_, rfl⟩
  have hW' := Lib.hid (And.intro hW hg)
  rw [← hg] at hR
  have hgw : w.heap.size ≤ g := by omega
  clear hW hg
  skip
  replace ha := ha.below hB
  replace hb := hb.below hB
  obtain ⟨c1_hR_0, c1_hR_1, c1_hR_2, c1_hR_3⟩ := hR.quad
  go_enter Try.func10, Try.ntmps10
  go_wp2_with fail
  rw [← hW'.out.1, ← hW'.out.2]
  refine (hLn _ ⟨_, _, rfl, ha, hb⟩).mono ?_
  rintro e w1 ⟨rfl, b1⟩
  replace ha := ha.below b1
  replace hb := hb.below b1
  replace hR := hR.below b1 hR.lt
  replace hB := hB.trans (b1.mono hB.size)
  clear c1_hR_0 c1_hR_1 c1_hR_2 c1_hR_3
  obtain ⟨c2_hR_0, c2_hR_1, c2_hR_2, c2_hR_3⟩ := hR.quad
  go_wp2_with fail
  refine (hOf _ ⟨_, _, rfl, ha, hb⟩).mono ?_
  rintro e w2 ⟨rfl, b2⟩
  replace ha := ha.below b2
  replace hb := hb.below b2
  replace hR := hR.below b2 hR.lt
  replace hB := hB.trans (b2.mono hB.size)
  clear c2_hR_0 c2_hR_1 c2_hR_2 c2_hR_3
  obtain ⟨c3_hR_0, c3_hR_1, c3_hR_2, c3_hR_3⟩ := hR.quad
  go_wp2_with fail
  refine (hC _ ⟨_, _, rfl, ha, hb⟩).mono ?_
  rintro e w3 ⟨rfl, b3⟩
  replace ha := ha.below b3
  replace hb := hb.below b3
  replace hR := hR.below b3 hR.lt
  replace hB := hB.trans (b3.mono hB.size)
  clear c3_hR_0 c3_hR_1 c3_hR_2 c3_hR_3
  obtain ⟨c4_hR_0, c4_hR_1, c4_hR_2, c4_hR_3⟩ := hR.quad
  go_wp2
  go_ret
  exact ⟨rfl, hB⟩
/-- is a block right? -/
theorem bright_any (v : Value) (k s : Int) (cs : List Nat) (wd : List Int) (w : World) (h : IsBk w v k s cs wd) (h1 : cs.length ≤ 281474976710656) (h2 : wd.length ≤ 17592186044416) :
    Calls Try.prog 10 #[v] w fun e w' => e = .returned (.bool (blkR k s cs wd)) ∧ Below w.heap.size w w' := by
  by_cases hf : cs.length + wd.length ≤ 4096
  · by_cases hk : k = 4
    · exact bright_wide v k s cs wd w h h1 h2 hf hk
    · exact bright_coded v k s cs wd w h h1 h2 hf hk
  · exact bright_few v k s cs wd w h h1 h2 hf
set_option maxHeartbeats 4000000 in
theorem bsame_kind (u v : Value) (k s : Int) (cs : List Nat) (wd : List Int) (k' s' : Int) (cs' : List Nat) (wd' : List Int) (w : World) (hu : IsBk w u k s cs wd) (hv : IsBk w v k' s' cs' wd') (hk : k ≠ k') :
    Calls Try.prog 9 #[u, v] w fun e w' => e = .returned (.bool false) ∧ Below w.heap.size w w' := by
  obtain ⟨a, b, rfl, ha, hb⟩ := hu
  obtain ⟨a', b', rfl, ha', hb'⟩ := hv
  have hE1 := fun w x y => bytesEqual_any a a' cs cs' w x y
  have hE2 := fun w x y => equal_i64 b b' wd wd' w x y
  have e1 : (k == k') = false := by simpa using hk
  have e2 : decide (k = k') = false := by simpa using hk
  obtain ⟨W0, hW, hT, hB⟩ := box2 w 27 27 #[.int .i64 k, .int .i64 s, a, b] #[.int .i64 k', .int .i64 s', a', b']
  obtain ⟨g, hg⟩ : ∃ g, g = w.heap.size := ⟨_, rfl⟩
  have hW' := Lib.hid (And.intro hW hg)
  rw [← hg] at hT
  have hgw : w.heap.size ≤ g := by omega
  clear hW hg
  obtain ⟨hX, hY⟩ := hT
  replace ha := ha.below hB
  replace hb := hb.below hB
  replace ha' := ha'.below hB
  replace hb' := hb'.below hB
  obtain ⟨c1_hX_0, c1_hX_1, c1_hX_2, c1_hX_3⟩ := hX.quad
  obtain ⟨c1_hY_0, c1_hY_1, c1_hY_2, c1_hY_3⟩ := hY.quad
  go_enter Try.func9, Try.ntmps9
  go_wp2
  rw [← hW'.out.1]
  go_ret
  exact ⟨ret_bool (by simp [*]), hB⟩
set_option maxHeartbeats 4000000 in
theorem bsame_scale (u v : Value) (k s : Int) (cs : List Nat) (wd : List Int) (k' s' : Int) (cs' : List Nat) (wd' : List Int) (w : World) (hu : IsBk w u k s cs wd) (hv : IsBk w v k' s' cs' wd') (hk : k = k') (hs : s ≠ s') :
    Calls Try.prog 9 #[u, v] w fun e w' => e = .returned (.bool false) ∧ Below w.heap.size w w' := by
  obtain ⟨a, b, rfl, ha, hb⟩ := hu
  obtain ⟨a', b', rfl, ha', hb'⟩ := hv
  have hE1 := fun w x y => bytesEqual_any a a' cs cs' w x y
  have hE2 := fun w x y => equal_i64 b b' wd wd' w x y
  subst hk
  have e3 : (s == s') = false := by simpa using hs
  have e4 : decide (s = s') = false := by simpa using hs
  obtain ⟨W0, hW, hT, hB⟩ := box2 w 27 27 #[.int .i64 k, .int .i64 s, a, b] #[.int .i64 k, .int .i64 s', a', b']
  obtain ⟨g, hg⟩ : ∃ g, g = w.heap.size := ⟨_, rfl⟩
  have hW' := Lib.hid (And.intro hW hg)
  rw [← hg] at hT
  have hgw : w.heap.size ≤ g := by omega
  clear hW hg
  obtain ⟨hX, hY⟩ := hT
  replace ha := ha.below hB
  replace hb := hb.below hB
  replace ha' := ha'.below hB
  replace hb' := hb'.below hB
  obtain ⟨c1_hX_0, c1_hX_1, c1_hX_2, c1_hX_3⟩ := hX.quad
  obtain ⟨c1_hY_0, c1_hY_1, c1_hY_2, c1_hY_3⟩ := hY.quad
  go_enter Try.func9, Try.ntmps9
  go_wp2
  rw [← hW'.out.1]
  go_ret
  exact ⟨ret_bool (by simp [*]), hB⟩
set_option maxHeartbeats 4000000 in
theorem bsame_codes (u v : Value) (k s : Int) (cs : List Nat) (wd : List Int) (k' s' : Int) (cs' : List Nat) (wd' : List Int) (w : World) (hu : IsBk w u k s cs wd) (hv : IsBk w v k' s' cs' wd') (hk : k = k') (hs : s = s') (hc : cs ≠ cs') :
    Calls Try.prog 9 #[u, v] w fun e w' => e = .returned (.bool false) ∧ Below w.heap.size w w' := by
  obtain ⟨a, b, rfl, ha, hb⟩ := hu
  obtain ⟨a', b', rfl, ha', hb'⟩ := hv
  have hE1 := fun w x y => bytesEqual_any a a' cs cs' w x y
  have hE2 := fun w x y => equal_i64 b b' wd wd' w x y
  subst hk hs
  rw [decide_eq_false hc] at hE1
  obtain ⟨W0, hW, hT, hB⟩ := box2 w 27 27 #[.int .i64 k, .int .i64 s, a, b] #[.int .i64 k, .int .i64 s, a', b']
  obtain ⟨g, hg⟩ : ∃ g, g = w.heap.size := ⟨_, rfl⟩
  have hW' := Lib.hid (And.intro hW hg)
  rw [← hg] at hT
  have hgw : w.heap.size ≤ g := by omega
  clear hW hg
  obtain ⟨hX, hY⟩ := hT
  replace ha := ha.below hB
  replace hb := hb.below hB
  replace ha' := ha'.below hB
  replace hb' := hb'.below hB
  obtain ⟨c1_hX_0, c1_hX_1, c1_hX_2, c1_hX_3⟩ := hX.quad
  obtain ⟨c1_hY_0, c1_hY_1, c1_hY_2, c1_hY_3⟩ := hY.quad
  go_enter Try.func9, Try.ntmps9
  go_wp2_with fail
  rw [← hW'.out.1, ← hW'.out.2]
  refine (hE1 _ ha ha').mono ?_
  rintro e w1 ⟨rfl, rfl⟩
  go_wp2
  go_ret
  exact ⟨ret_bool (by simp [*]), hB⟩
set_option maxHeartbeats 4000000 in
theorem bsame_all (u v : Value) (k s : Int) (cs : List Nat) (wd : List Int) (k' s' : Int) (cs' : List Nat) (wd' : List Int) (w : World) (hu : IsBk w u k s cs wd) (hv : IsBk w v k' s' cs' wd') (hk : k = k') (hs : s = s') (hc : cs = cs') :
    Calls Try.prog 9 #[u, v] w fun e w' => e = .returned (.bool (decide (wd = wd'))) ∧ Below w.heap.size w w' := by
  obtain ⟨a, b, rfl, ha, hb⟩ := hu
  obtain ⟨a', b', rfl, ha', hb'⟩ := hv
  have hE1 := fun w x y => bytesEqual_any a a' cs cs' w x y
  have hE2 := fun w x y => equal_i64 b b' wd wd' w x y
  subst hk hs
  rw [decide_eq_true hc] at hE1
  generalize decide (wd = wd') = r at *
  obtain ⟨W0, hW, hT, hB⟩ := box2 w 27 27 #[.int .i64 k, .int .i64 s, a, b] #[.int .i64 k, .int .i64 s, a', b']
  obtain ⟨g, hg⟩ : ∃ g, g = w.heap.size := ⟨_, rfl⟩
  have hW' := Lib.hid (And.intro hW hg)
  rw [← hg] at hT
  have hgw : w.heap.size ≤ g := by omega
  clear hW hg
  obtain ⟨hX, hY⟩ := hT
  replace ha := ha.below hB
  replace hb := hb.below hB
  replace ha' := ha'.below hB
  replace hb' := hb'.below hB
  obtain ⟨c1_hX_0, c1_hX_1, c1_hX_2, c1_hX_3⟩ := hX.quad
  obtain ⟨c1_hY_0, c1_hY_1, c1_hY_2, c1_hY_3⟩ := hY.quad
  go_enter Try.func9, Try.ntmps9
  go_wp2_with fail
  rw [← hW'.out.1, ← hW'.out.2]
  refine (hE1 _ ha ha').mono ?_
  rintro e w1 ⟨rfl, rfl⟩
  go_wp2_with fail
  refine (hE2 _ hb hb').mono ?_
  rintro e w2 ⟨rfl, n2, hn2⟩
  have b2 : Below W0.heap.size W0 w2 := by rw [hn2]; exact below_drewN (Below.refl _ _) n2
  clear hn2
  replace ha := ha.below b2
  replace hb := hb.below b2
  replace ha' := ha'.below b2
  replace hb' := hb'.below b2
  replace hX := hX.below b2 hX.lt
  replace hY := hY.below b2 hY.lt
  replace hB := hB.trans (b2.mono hB.size)
  clear c1_hX_0 c1_hX_1 c1_hX_2 c1_hX_3 c1_hY_0 c1_hY_1 c1_hY_2 c1_hY_3
  obtain ⟨c2_hX_0, c2_hX_1, c2_hX_2, c2_hX_3⟩ := hX.quad
  obtain ⟨c2_hY_0, c2_hY_1, c2_hY_2, c2_hY_3⟩ := hY.quad
  go_wp2
  go_ret
  exact ⟨ret_bool (by simp [*]), hB⟩
/-- are two blocks the same? -/
theorem bsame_any (u v : Value) (k s : Int) (cs : List Nat) (wd : List Int) (k' s' : Int) (cs' : List Nat) (wd' : List Int) (w : World) (hu : IsBk w u k s cs wd) (hv : IsBk w v k' s' cs' wd') :
    Calls Try.prog 9 #[u, v] w fun e w' => e = .returned (.bool (decide (k = k') && (decide (s = s') && (decide (cs = cs') && decide (wd = wd'))))) ∧ Below w.heap.size w w' := by
  by_cases hk : k = k'
  · rw [decide_eq_true hk, Bool.true_and]
    by_cases hs : s = s'
    · rw [decide_eq_true hs, Bool.true_and]
      by_cases hc : cs = cs'
      · rw [decide_eq_true hc, Bool.true_and]
        exact bsame_all u v k s cs wd k' s' cs' wd' w hu hv hk hs hc
      · rw [decide_eq_false hc, Bool.false_and]
        exact bsame_codes u v k s cs wd k' s' cs' wd' w hu hv hk hs hc
    · rw [decide_eq_false hs, Bool.false_and]
      exact bsame_scale u v k s cs wd k' s' cs' wd' w hu hv hk hs
  · rw [decide_eq_false hk, Bool.false_and]
    exact bsame_kind u v k s cs wd k' s' cs' wd' w hu hv hk
end Go.Proofs.Ytgcebmgmmhdcpaa
