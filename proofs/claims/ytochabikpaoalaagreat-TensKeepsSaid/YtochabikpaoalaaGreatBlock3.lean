/- Package block: of, Right, Load, Same. Printed by gen_blk3.py. -/
import Derived.Test.YtochabikpaoalaaGreatBlock2
namespace Go.Proofs.YtochabikpaoalaaGreat
open Go.RowKit
attribute [local go_sem ↓] Go.wp_at_zero Go.wp_at_succ

set_option maxHeartbeats 2000000 in
theorem of_wide (v : Value) (k s : Int) (cs : List Nat) (wd : List Int) (w : World) (h : IsBk w v k s cs wd) (hk : k = 4) :
    Calls Tryz.prog 38 #[v] w fun e w' => e = .returned (.iface 72 v) ∧ Below w.heap.size w w' := by
  obtain ⟨a, b, rfl, ha, hb⟩ := h
  obtain ⟨Aa, Ca, rfl, _, _⟩ := id ha.form
  obtain ⟨Ab, Cb, rfl, _, _⟩ := id hb.form
  have hk1 : (k == 4) = true := by simpa using hk
  have hk2 : decide (k = 4) = true := by simpa using hk
  clear hk
  obtain ⟨W0, hW, hR, hB⟩ := box1 w 43 #[.int .i64 k, .int .i64 s, .slice Aa cs.length Ca, .slice Ab wd.length Cb]
  obtain ⟨g, hg⟩ : ∃ g, g = w.heap.size := ⟨_, rfl⟩
  have hW' := Lib.hid (And.intro hW hg)
  rw [← hg] at hR
  have hgw : w.heap.size ≤ g := by omega
  clear hW hg
  skip
  obtain ⟨c1_hR_0, c1_hR_1, c1_hR_2, c1_hR_3⟩ := hR.quad
  go_enter Tryz.func38, Tryz.ntmps38
  go_wp2
  rw [← hW'.out.1]
  go_ret
  exact ⟨rfl, hB⟩
set_option maxHeartbeats 2000000 in
theorem of_coded (v : Value) (k s : Int) (cs : List Nat) (wd : List Int) (w : World) (h : IsBk w v k s cs wd) (hk : k ≠ 4) :
    Calls Tryz.prog 38 #[v] w fun e w' => e = .returned (.iface 73 v) ∧ Below w.heap.size w w' := by
  obtain ⟨a, b, rfl, ha, hb⟩ := h
  obtain ⟨Aa, Ca, rfl, _, _⟩ := id ha.form
  obtain ⟨Ab, Cb, rfl, _, _⟩ := id hb.form
  have hk1 : (k == 4) = false := by simpa using hk
  have hk2 : decide (k = 4) = false := by simpa using hk
  clear hk
  obtain ⟨W0, hW, hR, hB⟩ := box1 w 43 #[.int .i64 k, .int .i64 s, .slice Aa cs.length Ca, .slice Ab wd.length Cb]
  obtain ⟨g, hg⟩ : ∃ g, g = w.heap.size := ⟨_, rfl⟩
  have hW' := Lib.hid (And.intro hW hg)
  rw [← hg] at hR
  have hgw : w.heap.size ≤ g := by omega
  clear hW hg
  skip
  obtain ⟨c1_hR_0, c1_hR_1, c1_hR_2, c1_hR_3⟩ := hR.quad
  go_enter Tryz.func38, Tryz.ntmps38
  go_wp2
  rw [← hW'.out.1]
  go_ret
  exact ⟨rfl, hB⟩
set_option maxHeartbeats 2000000 in
theorem load_wide (v : Value) (k s : Int) (cs : List Nat) (wd : List Int) (w : World) (h : IsBk w v k s cs wd) (hk : k = 4) (h2 : wd.length ≤ 17592186044416) :
    Calls Tryz.prog 32 #[v] w fun e w' => ∃ v', e = .returned v' ∧ IsI w' v' wd ∧ Below w.heap.size w w' := by
  obtain ⟨a, b, rfl, ha, hb⟩ := h
  obtain ⟨Aa, Ca, rfl, _, _⟩ := id ha.form
  obtain ⟨Ab, Cb, rfl, _, _⟩ := id hb.form
  have hOf := fun w h => of_wide (.agg #[.int .i64 k, .int .i64 s, .slice Aa cs.length Ca, .slice Ab wd.length Cb]) k s cs wd w h hk
  have hC := fun w h => pload_any (.agg #[.int .i64 k, .int .i64 s, .slice Aa cs.length Ca, .slice Ab wd.length Cb]) k s cs wd w h h2
  clear hk
  obtain ⟨W0, hW, hR, hB⟩ := box1 w 43 #[.int .i64 k, .int .i64 s, .slice Aa cs.length Ca, .slice Ab wd.length Cb]
  obtain ⟨g, hg⟩ : ∃ g, g = w.heap.size := ⟨_, rfl⟩
  have hW' := Lib.hid (And.intro hW hg)
  rw [← hg] at hR
  have hgw : w.heap.size ≤ g := by omega
  clear hW hg
  skip
  replace ha := ha.below hB
  replace hb := hb.below hB
  obtain ⟨c1_hR_0, c1_hR_1, c1_hR_2, c1_hR_3⟩ := hR.quad
  go_enter Tryz.func32, Tryz.ntmps32
  go_wp2_with fail
  rw [← hW'.out.1, ← hW'.out.2]
  refine (hOf _ ⟨_, _, rfl, ha, hb⟩).mono ?_
  rintro e w1 ⟨rfl, b1⟩
  replace ha := ha.below b1
  replace hb := hb.below b1
  replace hR := hR.below b1 hR.lt
  replace hB := hB.trans (b1.mono hB.size)
  clear c1_hR_0 c1_hR_1 c1_hR_2 c1_hR_3
  obtain ⟨c2_hR_0, c2_hR_1, c2_hR_2, c2_hR_3⟩ := hR.quad
  go_wp2_with fail
  refine (hC _ ⟨_, _, rfl, ha, hb⟩).mono ?_
  rintro e w2 ⟨v9, rfl, h9, b2⟩
  replace ha := ha.below b2
  replace hb := hb.below b2
  replace hR := hR.below b2 hR.lt
  replace hB := hB.trans (b2.mono hB.size)
  clear c2_hR_0 c2_hR_1 c2_hR_2 c2_hR_3
  obtain ⟨c3_hR_0, c3_hR_1, c3_hR_2, c3_hR_3⟩ := hR.quad
  obtain ⟨A9, C9, rfl, _, _⟩ := id h9.form
  go_wp2
  go_ret
  exact ⟨_, rfl, h9, hB⟩
set_option maxHeartbeats 2000000 in
theorem load_coded (v : Value) (n : Nat) (s : Int) (cs : List Nat) (wd : List Int) (w : World) (h : IsBk w v n s cs wd) (hn : n < 4) (hs0 : 0 ≤ s) (hs1 : s ≤ 9223372036854775807) (hcl : cs.length ≤ 1000000) :
    Calls Tryz.prog 32 #[v] w fun e w' => ∃ v', e = .returned v' ∧ IsI w' v' (loadC n s cs) ∧ Below w.heap.size w w' := by
  obtain ⟨a, b, rfl, ha, hb⟩ := h
  obtain ⟨Aa, Ca, rfl, _, _⟩ := id ha.form
  obtain ⟨Ab, Cb, rfl, _, _⟩ := id hb.form
  have hk : (n : Int) ≠ 4 := by omega
  have hOf := fun w h => of_coded (.agg #[.int .i64 n, .int .i64 s, .slice Aa cs.length Ca, .slice Ab wd.length Cb]) n s cs wd w h hk
  have hC := fun w h => cload_any (.agg #[.int .i64 n, .int .i64 s, .slice Aa cs.length Ca, .slice Ab wd.length Cb]) n s cs wd w hn hs0 hs1 hcl h
  clear hk
  obtain ⟨W0, hW, hR, hB⟩ := box1 w 43 #[.int .i64 n, .int .i64 s, .slice Aa cs.length Ca, .slice Ab wd.length Cb]
  obtain ⟨g, hg⟩ : ∃ g, g = w.heap.size := ⟨_, rfl⟩
  have hW' := Lib.hid (And.intro hW hg)
  rw [← hg] at hR
  have hgw : w.heap.size ≤ g := by omega
  clear hW hg
  skip
  replace ha := ha.below hB
  replace hb := hb.below hB
  obtain ⟨c1_hR_0, c1_hR_1, c1_hR_2, c1_hR_3⟩ := hR.quad
  go_enter Tryz.func32, Tryz.ntmps32
  go_wp2_with fail
  rw [← hW'.out.1, ← hW'.out.2]
  refine (hOf _ ⟨_, _, rfl, ha, hb⟩).mono ?_
  rintro e w1 ⟨rfl, b1⟩
  replace ha := ha.below b1
  replace hb := hb.below b1
  replace hR := hR.below b1 hR.lt
  replace hB := hB.trans (b1.mono hB.size)
  clear c1_hR_0 c1_hR_1 c1_hR_2 c1_hR_3
  obtain ⟨c2_hR_0, c2_hR_1, c2_hR_2, c2_hR_3⟩ := hR.quad
  go_wp2_with fail
  refine (hC _ ⟨_, _, rfl, ha, hb⟩).mono ?_
  rintro e w2 ⟨v9, rfl, h9, b2⟩
  replace ha := ha.below b2
  replace hb := hb.below b2
  replace hR := hR.below b2 hR.lt
  replace hB := hB.trans (b2.mono hB.size)
  clear c2_hR_0 c2_hR_1 c2_hR_2 c2_hR_3
  obtain ⟨c3_hR_0, c3_hR_1, c3_hR_2, c3_hR_3⟩ := hR.quad
  obtain ⟨A9, C9, rfl, _, _⟩ := id h9.form
  go_wp2
  go_ret
  exact ⟨_, rfl, h9, hB⟩
set_option maxHeartbeats 2000000 in
theorem bright_few (v : Value) (k s : Int) (cs : List Nat) (wd : List Int) (w : World) (h : IsBk w v k s cs wd) (h1 : cs.length ≤ 281474976710656) (h2 : wd.length ≤ 17592186044416) (hf : ¬ cs.length + wd.length ≤ 4096) :
    Calls Tryz.prog 27 #[v] w fun e w' => e = .returned (.bool (blkR k s cs wd)) ∧ Below w.heap.size w w' := by
  obtain ⟨a, b, rfl, ha, hb⟩ := h
  obtain ⟨Aa, Ca, rfl, _, _⟩ := id ha.form
  obtain ⟨Ab, Cb, rfl, _, _⟩ := id hb.form
  have hLn := fun w h => blen_any (.agg #[.int .i64 k, .int .i64 s, .slice Aa cs.length Ca, .slice Ab wd.length Cb]) k s cs wd w h h1 h2
  rw [show blkR k s cs wd = false by unfold blkR; rw [decide_eq_false hf, Bool.false_and]]
  have hl1 : decide ((cs.length : Int) + (wd.length : Int) ≤ 4096) = false := decide_eq_false (by omega)
  obtain ⟨W0, hW, hR, hB⟩ := box1 w 43 #[.int .i64 k, .int .i64 s, .slice Aa cs.length Ca, .slice Ab wd.length Cb]
  obtain ⟨g, hg⟩ : ∃ g, g = w.heap.size := ⟨_, rfl⟩
  have hW' := Lib.hid (And.intro hW hg)
  rw [← hg] at hR
  have hgw : w.heap.size ≤ g := by omega
  clear hW hg
  skip
  replace ha := ha.below hB
  replace hb := hb.below hB
  obtain ⟨c1_hR_0, c1_hR_1, c1_hR_2, c1_hR_3⟩ := hR.quad
  go_enter Tryz.func27, Tryz.ntmps27
  go_wp2_with fail
  rw [← hW'.out.1, ← hW'.out.2]
  refine (hLn _ ⟨_, _, rfl, ha, hb⟩).mono ?_
  rintro e w1 ⟨rfl, b1⟩
  replace ha := ha.below b1
  replace hb := hb.below b1
  replace hR := hR.below b1 hR.lt
  replace hB := hB.trans (b1.mono hB.size)
  clear c1_hR_0 c1_hR_1 c1_hR_2 c1_hR_3
  obtain ⟨c2_hR_0, c2_hR_1, c2_hR_2, c2_hR_3⟩ := hR.quad
  go_wp2
  go_ret
  exact ⟨rfl, hB⟩
set_option maxHeartbeats 2000000 in
theorem bright_wide (v : Value) (k s : Int) (cs : List Nat) (wd : List Int) (w : World) (h : IsBk w v k s cs wd) (h1 : cs.length ≤ 281474976710656) (h2 : wd.length ≤ 17592186044416) (hf : cs.length + wd.length ≤ 4096) (hk : k = 4) :
    Calls Tryz.prog 27 #[v] w fun e w' => e = .returned (.bool (blkR k s cs wd)) ∧ Below w.heap.size w w' := by
  obtain ⟨a, b, rfl, ha, hb⟩ := h
  obtain ⟨Aa, Ca, rfl, _, _⟩ := id ha.form
  obtain ⟨Ab, Cb, rfl, _, _⟩ := id hb.form
  have hLn := fun w h => blen_any (.agg #[.int .i64 k, .int .i64 s, .slice Aa cs.length Ca, .slice Ab wd.length Cb]) k s cs wd w h h1 h2
  have hOf := fun w h => of_wide (.agg #[.int .i64 k, .int .i64 s, .slice Aa cs.length Ca, .slice Ab wd.length Cb]) k s cs wd w h hk
  have hC := fun w h => pright_any (.agg #[.int .i64 k, .int .i64 s, .slice Aa cs.length Ca, .slice Ab wd.length Cb]) k s cs wd w h
  rw [show blkR k s cs wd = (decide (s = 0) && (decide (cs = []) && !wd.contains (-9223372036854775808))) by unfold blkR; rw [decide_eq_true hf, Bool.true_and, if_pos hk]]
  generalize (decide (s = 0) && (decide (cs = []) && !wd.contains (-9223372036854775808))) = r at *
  clear hk
  have hl1 : decide ((cs.length : Int) + (wd.length : Int) ≤ 4096) = true := decide_eq_true (by omega)
  obtain ⟨W0, hW, hR, hB⟩ := box1 w 43 #[.int .i64 k, .int .i64 s, .slice Aa cs.length Ca, .slice Ab wd.length Cb]
  obtain ⟨g, hg⟩ : ∃ g, g = w.heap.size := ⟨_, rfl⟩
  have hW' := Lib.hid (And.intro hW hg)
  rw [← hg] at hR
  have hgw : w.heap.size ≤ g := by omega
  clear hW hg
  skip
  replace ha := ha.below hB
  replace hb := hb.below hB
  obtain ⟨c1_hR_0, c1_hR_1, c1_hR_2, c1_hR_3⟩ := hR.quad
  go_enter Tryz.func27, Tryz.ntmps27
  go_wp2_with fail
  rw [← hW'.out.1, ← hW'.out.2]
  refine (hLn _ ⟨_, _, rfl, ha, hb⟩).mono ?_
  rintro e w1 ⟨rfl, b1⟩
  replace ha := ha.below b1
  replace hb := hb.below b1
  replace hR := hR.below b1 hR.lt
  replace hB := hB.trans (b1.mono hB.size)
  clear c1_hR_0 c1_hR_1 c1_hR_2 c1_hR_3
  obtain ⟨c2_hR_0, c2_hR_1, c2_hR_2, c2_hR_3⟩ := hR.quad
  go_wp2_with fail
  refine (hOf _ ⟨_, _, rfl, ha, hb⟩).mono ?_
  rintro e w2 ⟨rfl, b2⟩
  replace ha := ha.below b2
  replace hb := hb.below b2
  replace hR := hR.below b2 hR.lt
  replace hB := hB.trans (b2.mono hB.size)
  clear c2_hR_0 c2_hR_1 c2_hR_2 c2_hR_3
  obtain ⟨c3_hR_0, c3_hR_1, c3_hR_2, c3_hR_3⟩ := hR.quad
  go_wp2_with fail
  refine (hC _ ⟨_, _, rfl, ha, hb⟩).mono ?_
  rintro e w3 ⟨rfl, b3⟩
  replace ha := ha.below b3
  replace hb := hb.below b3
  replace hR := hR.below b3 hR.lt
  replace hB := hB.trans (b3.mono hB.size)
  clear c3_hR_0 c3_hR_1 c3_hR_2 c3_hR_3
  obtain ⟨c4_hR_0, c4_hR_1, c4_hR_2, c4_hR_3⟩ := hR.quad
  go_wp2
  go_ret
  exact ⟨rfl, hB⟩
set_option maxHeartbeats 2000000 in
theorem bright_coded (v : Value) (k s : Int) (cs : List Nat) (wd : List Int) (w : World) (h : IsBk w v k s cs wd) (h1 : cs.length ≤ 281474976710656) (h2 : wd.length ≤ 17592186044416) (hf : cs.length + wd.length ≤ 4096) (hk : k ≠ 4) :
    Calls Tryz.prog 27 #[v] w fun e w' => e = .returned (.bool (blkR k s cs wd)) ∧ Below w.heap.size w w' := by
  obtain ⟨a, b, rfl, ha, hb⟩ := h
  obtain ⟨Aa, Ca, rfl, _, _⟩ := id ha.form
  obtain ⟨Ab, Cb, rfl, _, _⟩ := id hb.form
  have hLn := fun w h => blen_any (.agg #[.int .i64 k, .int .i64 s, .slice Aa cs.length Ca, .slice Ab wd.length Cb]) k s cs wd w h h1 h2
  have hOf := fun w h => of_coded (.agg #[.int .i64 k, .int .i64 s, .slice Aa cs.length Ca, .slice Ab wd.length Cb]) k s cs wd w h hk
  have hC := fun w h => cright_any (.agg #[.int .i64 k, .int .i64 s, .slice Aa cs.length Ca, .slice Ab wd.length Cb]) k s cs wd w h
  rw [show blkR k s cs wd = (decide (0 ≤ k ∧ k ≤ 3) && (decide (wd = []) && (decide (0 ≤ s) && (if s = 0 then cs.all (fun c => decide (c = codeOf k 0 1)) else cs.contains (codeOf k 1 1) || (decide (codeE k (-1) 1 = 0) && cs.contains (codeOf k (-1) 1)))))) by unfold blkR; rw [decide_eq_true hf, Bool.true_and, if_neg hk]]
  generalize (decide (0 ≤ k ∧ k ≤ 3) && (decide (wd = []) && (decide (0 ≤ s) && (if s = 0 then cs.all (fun c => decide (c = codeOf k 0 1)) else cs.contains (codeOf k 1 1) || (decide (codeE k (-1) 1 = 0) && cs.contains (codeOf k (-1) 1)))))) = r at *
  clear hk
  have hl1 : decide ((cs.length : Int) + (wd.length : Int) ≤ 4096) = true := decide_eq_true (by omega)
  obtain ⟨W0, hW, hR, hB⟩ := box1 w 43 #[.int .i64 k, .int .i64 s, .slice Aa cs.length Ca, .slice Ab wd.length Cb]
  obtain ⟨g, hg⟩ : ∃ g, g = w.heap.size := ⟨_, rfl⟩
  have hW' := Lib.hid (And.intro hW hg)
  rw [← hg] at hR
  have hgw : w.heap.size ≤ g := by omega
  clear hW hg
  skip
  replace ha := ha.below hB
  replace hb := hb.below hB
  obtain ⟨c1_hR_0, c1_hR_1, c1_hR_2, c1_hR_3⟩ := hR.quad
  go_enter Tryz.func27, Tryz.ntmps27
  go_wp2_with fail
  rw [← hW'.out.1, ← hW'.out.2]
  refine (hLn _ ⟨_, _, rfl, ha, hb⟩).mono ?_
  rintro e w1 ⟨rfl, b1⟩
  replace ha := ha.below b1
  replace hb := hb.below b1
  replace hR := hR.below b1 hR.lt
  replace hB := hB.trans (b1.mono hB.size)
  clear c1_hR_0 c1_hR_1 c1_hR_2 c1_hR_3
  obtain ⟨c2_hR_0, c2_hR_1, c2_hR_2, c2_hR_3⟩ := hR.quad
  go_wp2_with fail
  refine (hOf _ ⟨_, _, rfl, ha, hb⟩).mono ?_
  rintro e w2 ⟨rfl, b2⟩
  replace ha := ha.below b2
  replace hb := hb.below b2
  replace hR := hR.below b2 hR.lt
  replace hB := hB.trans (b2.mono hB.size)
  clear c2_hR_0 c2_hR_1 c2_hR_2 c2_hR_3
  obtain ⟨c3_hR_0, c3_hR_1, c3_hR_2, c3_hR_3⟩ := hR.quad
  go_wp2_with fail
  refine (hC _ ⟨_, _, rfl, ha, hb⟩).mono ?_
  rintro e w3 ⟨rfl, b3⟩
  replace ha := ha.below b3
  replace hb := hb.below b3
  replace hR := hR.below b3 hR.lt
  replace hB := hB.trans (b3.mono hB.size)
  clear c3_hR_0 c3_hR_1 c3_hR_2 c3_hR_3
  obtain ⟨c4_hR_0, c4_hR_1, c4_hR_2, c4_hR_3⟩ := hR.quad
  go_wp2
  go_ret
  exact ⟨rfl, hB⟩
/-- is a block right? -/
theorem bright_any (v : Value) (k s : Int) (cs : List Nat) (wd : List Int) (w : World) (h : IsBk w v k s cs wd) (h1 : cs.length ≤ 281474976710656) (h2 : wd.length ≤ 17592186044416) :
    Calls Tryz.prog 27 #[v] w fun e w' => e = .returned (.bool (blkR k s cs wd)) ∧ Below w.heap.size w w' := by
  by_cases hf : cs.length + wd.length ≤ 4096
  · by_cases hk : k = 4
    · exact bright_wide v k s cs wd w h h1 h2 hf hk
    · exact bright_coded v k s cs wd w h h1 h2 hf hk
  · exact bright_few v k s cs wd w h h1 h2 hf
set_option maxHeartbeats 4000000 in
theorem bsame_kind (u v : Value) (k s : Int) (cs : List Nat) (wd : List Int) (k' s' : Int) (cs' : List Nat) (wd' : List Int) (w : World) (hu : IsBk w u k s cs wd) (hv : IsBk w v k' s' cs' wd') (hk : k ≠ k') :
    Calls Tryz.prog 30 #[u, v] w fun e w' => e = .returned (.bool false) ∧ Below w.heap.size w w' := by
  obtain ⟨a, b, rfl, ha, hb⟩ := hu
  obtain ⟨a', b', rfl, ha', hb'⟩ := hv
  have hE1 := fun w x y => bytesEqual_any a a' cs cs' w x y
  have hE2 := fun w x y => equal_i64 b b' wd wd' w x y
  have e1 : (k == k') = false := by simpa using hk
  have e2 : decide (k = k') = false := by simpa using hk
  obtain ⟨W0, hW, hT, hB⟩ := box2 w 43 43 #[.int .i64 k, .int .i64 s, a, b] #[.int .i64 k', .int .i64 s', a', b']
  obtain ⟨g, hg⟩ : ∃ g, g = w.heap.size := ⟨_, rfl⟩
  have hW' := Lib.hid (And.intro hW hg)
  rw [← hg] at hT
  have hgw : w.heap.size ≤ g := by omega
  clear hW hg
  obtain ⟨hX, hY⟩ := hT
  replace ha := ha.below hB
  replace hb := hb.below hB
  replace ha' := ha'.below hB
  replace hb' := hb'.below hB
  obtain ⟨c1_hX_0, c1_hX_1, c1_hX_2, c1_hX_3⟩ := hX.quad
  obtain ⟨c1_hY_0, c1_hY_1, c1_hY_2, c1_hY_3⟩ := hY.quad
  go_enter Tryz.func30, Tryz.ntmps30
  go_wp2
  rw [← hW'.out.1]
  go_ret
  exact ⟨ret_bool (by simp [*]), hB⟩
set_option maxHeartbeats 4000000 in
theorem bsame_scale (u v : Value) (k s : Int) (cs : List Nat) (wd : List Int) (k' s' : Int) (cs' : List Nat) (wd' : List Int) (w : World) (hu : IsBk w u k s cs wd) (hv : IsBk w v k' s' cs' wd') (hk : k = k') (hs : s ≠ s') :
    Calls Tryz.prog 30 #[u, v] w fun e w' => e = .returned (.bool false) ∧ Below w.heap.size w w' := by
  obtain ⟨a, b, rfl, ha, hb⟩ := hu
  obtain ⟨a', b', rfl, ha', hb'⟩ := hv
  have hE1 := fun w x y => bytesEqual_any a a' cs cs' w x y
  have hE2 := fun w x y => equal_i64 b b' wd wd' w x y
  subst hk
  have e3 : (s == s') = false := by simpa using hs
  have e4 : decide (s = s') = false := by simpa using hs
  obtain ⟨W0, hW, hT, hB⟩ := box2 w 43 43 #[.int .i64 k, .int .i64 s, a, b] #[.int .i64 k, .int .i64 s', a', b']
  obtain ⟨g, hg⟩ : ∃ g, g = w.heap.size := ⟨_, rfl⟩
  have hW' := Lib.hid (And.intro hW hg)
  rw [← hg] at hT
  have hgw : w.heap.size ≤ g := by omega
  clear hW hg
  obtain ⟨hX, hY⟩ := hT
  replace ha := ha.below hB
  replace hb := hb.below hB
  replace ha' := ha'.below hB
  replace hb' := hb'.below hB
  obtain ⟨c1_hX_0, c1_hX_1, c1_hX_2, c1_hX_3⟩ := hX.quad
  obtain ⟨c1_hY_0, c1_hY_1, c1_hY_2, c1_hY_3⟩ := hY.quad
  go_enter Tryz.func30, Tryz.ntmps30
  go_wp2
  rw [← hW'.out.1]
  go_ret
  exact ⟨ret_bool (by simp [*]), hB⟩
set_option maxHeartbeats 4000000 in
theorem bsame_codes (u v : Value) (k s : Int) (cs : List Nat) (wd : List Int) (k' s' : Int) (cs' : List Nat) (wd' : List Int) (w : World) (hu : IsBk w u k s cs wd) (hv : IsBk w v k' s' cs' wd') (hk : k = k') (hs : s = s') (hc : cs ≠ cs') :
    Calls Tryz.prog 30 #[u, v] w fun e w' => e = .returned (.bool false) ∧ Below w.heap.size w w' := by
  obtain ⟨a, b, rfl, ha, hb⟩ := hu
  obtain ⟨a', b', rfl, ha', hb'⟩ := hv
  have hE1 := fun w x y => bytesEqual_any a a' cs cs' w x y
  have hE2 := fun w x y => equal_i64 b b' wd wd' w x y
  subst hk hs
  rw [decide_eq_false hc] at hE1
  obtain ⟨W0, hW, hT, hB⟩ := box2 w 43 43 #[.int .i64 k, .int .i64 s, a, b] #[.int .i64 k, .int .i64 s, a', b']
  obtain ⟨g, hg⟩ : ∃ g, g = w.heap.size := ⟨_, rfl⟩
  have hW' := Lib.hid (And.intro hW hg)
  rw [← hg] at hT
  have hgw : w.heap.size ≤ g := by omega
  clear hW hg
  obtain ⟨hX, hY⟩ := hT
  replace ha := ha.below hB
  replace hb := hb.below hB
  replace ha' := ha'.below hB
  replace hb' := hb'.below hB
  obtain ⟨c1_hX_0, c1_hX_1, c1_hX_2, c1_hX_3⟩ := hX.quad
  obtain ⟨c1_hY_0, c1_hY_1, c1_hY_2, c1_hY_3⟩ := hY.quad
  go_enter Tryz.func30, Tryz.ntmps30
  go_wp2_with fail
  rw [← hW'.out.1, ← hW'.out.2]
  refine (hE1 _ ha ha').mono ?_
  rintro e w1 ⟨rfl, rfl⟩
  go_wp2
  go_ret
  exact ⟨ret_bool (by simp [*]), hB⟩
set_option maxHeartbeats 4000000 in
theorem bsame_all (u v : Value) (k s : Int) (cs : List Nat) (wd : List Int) (k' s' : Int) (cs' : List Nat) (wd' : List Int) (w : World) (hu : IsBk w u k s cs wd) (hv : IsBk w v k' s' cs' wd') (hk : k = k') (hs : s = s') (hc : cs = cs') :
    Calls Tryz.prog 30 #[u, v] w fun e w' => e = .returned (.bool (decide (wd = wd'))) ∧ Below w.heap.size w w' := by
  obtain ⟨a, b, rfl, ha, hb⟩ := hu
  obtain ⟨a', b', rfl, ha', hb'⟩ := hv
  have hE1 := fun w x y => bytesEqual_any a a' cs cs' w x y
  have hE2 := fun w x y => equal_i64 b b' wd wd' w x y
  subst hk hs
  rw [decide_eq_true hc] at hE1
  generalize decide (wd = wd') = r at *
  obtain ⟨W0, hW, hT, hB⟩ := box2 w 43 43 #[.int .i64 k, .int .i64 s, a, b] #[.int .i64 k, .int .i64 s, a', b']
  obtain ⟨g, hg⟩ : ∃ g, g = w.heap.size := ⟨_, rfl⟩
  have hW' := Lib.hid (And.intro hW hg)
  rw [← hg] at hT
  have hgw : w.heap.size ≤ g := by omega
  clear hW hg
  obtain ⟨hX, hY⟩ := hT
  replace ha := ha.below hB
  replace hb := hb.below hB
  replace ha' := ha'.below hB
  replace hb' := hb'.below hB
  obtain ⟨c1_hX_0, c1_hX_1, c1_hX_2, c1_hX_3⟩ := hX.quad
  obtain ⟨c1_hY_0, c1_hY_1, c1_hY_2, c1_hY_3⟩ := hY.quad
  go_enter Tryz.func30, Tryz.ntmps30
  go_wp2_with fail
  rw [← hW'.out.1, ← hW'.out.2]
  refine (hE1 _ ha ha').mono ?_
  rintro e w1 ⟨rfl, rfl⟩
  go_wp2_with fail
  refine (hE2 _ hb hb').mono ?_
  rintro e w2 ⟨rfl, n2, hn2⟩
  have b2 : Below W0.heap.size W0 w2 := by rw [hn2]; exact below_drewN (Below.refl _ _) n2
  clear hn2
  replace ha := ha.below b2
  replace hb := hb.below b2
  replace ha' := ha'.below b2
  replace hb' := hb'.below b2
  replace hX := hX.below b2 hX.lt
  replace hY := hY.below b2 hY.lt
  replace hB := hB.trans (b2.mono hB.size)
  clear c1_hX_0 c1_hX_1 c1_hX_2 c1_hX_3 c1_hY_0 c1_hY_1 c1_hY_2 c1_hY_3
  obtain ⟨c2_hX_0, c2_hX_1, c2_hX_2, c2_hX_3⟩ := hX.quad
  obtain ⟨c2_hY_0, c2_hY_1, c2_hY_2, c2_hY_3⟩ := hY.quad
  go_wp2
  go_ret
  exact ⟨ret_bool (by simp [*]), hB⟩
/-- are two blocks the same? -/
theorem bsame_any (u v : Value) (k s : Int) (cs : List Nat) (wd : List Int) (k' s' : Int) (cs' : List Nat) (wd' : List Int) (w : World) (hu : IsBk w u k s cs wd) (hv : IsBk w v k' s' cs' wd') :
    Calls Tryz.prog 30 #[u, v] w fun e w' => e = .returned (.bool (decide (k = k') && (decide (s = s') && (decide (cs = cs') && decide (wd = wd'))))) ∧ Below w.heap.size w w' := by
  by_cases hk : k = k'
  · rw [decide_eq_true hk, Bool.true_and]
    by_cases hs : s = s'
    · rw [decide_eq_true hs, Bool.true_and]
      by_cases hc : cs = cs'
      · rw [decide_eq_true hc, Bool.true_and]
        exact bsame_all u v k s cs wd k' s' cs' wd' w hu hv hk hs hc
      · rw [decide_eq_false hc, Bool.false_and]
        exact bsame_codes u v k s cs wd k' s' cs' wd' w hu hv hk hs hc
    · rw [decide_eq_false hs, Bool.false_and]
      exact bsame_scale u v k s cs wd k' s' cs' wd' w hu hv hk hs
  · rw [decide_eq_false hk, Bool.false_and]
    exact bsame_kind u v k s cs wd k' s' cs' wd' w hu hv hk
end Go.Proofs.YtochabikpaoalaaGreat
namespace Go.Proofs.YtochabikpaoalaaGreat
open Go.RowKit
attribute [local go_sem ↓] Go.wp_at_zero Go.wp_at_succ


theorem info_u8 : (Tryz.prog.info? 5).map (fun i => (i.zero, i.size, i.bytes)) = some (some (.int .u8 0), 1, 1) := by kernel_rfl
theorem run_max3_int {P : Program} (t : Array TypeId) (y : TypeId) (W : World) (a b c : Int) : (Builtin.max_ t y #[.int .i64 a, .int .i64 b, .int .i64 c]).run P W = .ok (.int .i64 (max (max a b) c)) W := by
  by_cases h : a < b
  · rw [Int.max_eq_right (show a ≤ b by omega)]
    by_cases h' : b < c
    · rw [Int.max_eq_right (by omega)]; simp [Builtin.max_, Builtin.max2, h, h']
    · rw [Int.max_eq_left (by omega)]; simp [Builtin.max_, Builtin.max2, h, h']
  · rw [Int.max_eq_left (show b ≤ a by omega)]
    by_cases h' : a < c
    · rw [Int.max_eq_right (by omega)]; simp [Builtin.max_, Builtin.max2, h, h']
    · rw [Int.max_eq_left (by omega)]; simp [Builtin.max_, Builtin.max2, h, h']
section
variable {w w' : World} {X B R : Nat} {u v : Value} {l : List Int}
theorem own_typeB {e : TypeId} {n : Nat} {xs : List Value} {t : TypeId} {cs : Array Value} (h : w.ownsRow B e 1 u n xs) (hb : Blk w X t cs) (hne : t ≠ e) : u.ownBlock ≠ some X := by
  rcases h.2 with ⟨rfl, _⟩ | ⟨g, cap, cur, rfl, hg, hh, _⟩
  · simp [Value.ownBlock]
  · intro e2
    have : g = X := by simpa [Value.ownBlock] using e2
    subst this
    unfold Blk at hb
    rw [hh] at hb
    injection hb with hb
    injection hb with h1 h2 h3
    exact hne h2.symm
theorem own_setB {e : TypeId} {n : Nat} {xs : List Value} (h : w.ownsRow B e 1 u n xs) {p : Addr} (hp : u.ownBlock ≠ some p.block) (y : Value) : (w.setCell p y).ownsRow B e 1 u n xs := by
  refine h.kept (row := some p.block) ⟨rfl, rfl, rfl, by simp [World.setCell], fun k _ hne => Below.heap_setCell w p y k (fun e => hne (by rw [e]))⟩ (.inr hp)
theorem own_below {e : TypeId} {n : Nat} {xs : List Value} (h : w.ownsRow B e 1 u n xs) (hb : Below w.heap.size w w') : w'.ownsRow B e 1 u n xs :=
  h.kept (row := none) ⟨hb.os, hb.tape, hb.output, hb.size, fun k hk _ => hb.block k hk⟩ (by cases u.ownBlock <;> simp)
theorem IsI.farB (h : IsI w v l) {p : Addr} (hp : v.ownBlock ≠ some p.block) (x : Value) : IsI (w.setCell p x) v l := by
  obtain ⟨A, c, rfl, h1, h2, h4⟩ := h
  refine ⟨A, c, rfl, h1, h2, h4.1, fun hn => ?_⟩
  obtain ⟨ad, rfl, hb, hc⟩ := h4.2 hn
  refine ⟨ad, rfl, by simpa [World.setCell] using hb, fun j y hj => (World.cell?_setCell_other w p _ x (fun e => hp ?_)).trans (hc j y hj)⟩
  show some ad.block = some p.block
  rw [e, block_of_add]
theorem IsY.farB {l : List Nat} (h : IsY w v l) {p : Addr} (hp : v.ownBlock ≠ some p.block) (x : Value) : IsY (w.setCell p x) v l := by
  obtain ⟨A, c, rfl, h1, h2, h3, h4⟩ := h
  refine ⟨A, c, rfl, h1, h2, h3, h4.1, fun hn => ?_⟩
  obtain ⟨ad, rfl, hb, hc⟩ := h4.2 hn
  refine ⟨ad, rfl, by simpa [World.setCell] using hb, fun j y hj => (World.cell?_setCell_other w p _ x (fun e => hp ?_)).trans (hc j y hj)⟩
  show some ad.block = some p.block
  rw [e, block_of_add]
theorem IsY.of_own {e : TypeId} {l : List Nat} (h : w.ownsRow B e 1 v l.length (ys l)) (hy : By l) : IsY w v l := by
  obtain ⟨A, c, rfl, h1, h2, h3⟩ := own_form h
  exact ⟨A, c, rfl, h1, h2, hy, h3⟩
theorem Fresh.nil (B : Nat) : Fresh B (.slice none 0 0) := fun _ e => nomatch e
/-- the two slices of a block lie in blocks from this one on -/
def FreshB (B : Nat) (b : Value) : Prop := ∃ x y a c, b = .agg #[x, y, a, c] ∧ Fresh B a ∧ Fresh B c
/-- a block's four cells are stored -/
theorem putBlk {t : TypeId} {a b c d : Value} (hR : Blk w R t #[a, b, c, d]) (x y z q : Value) {B0 : Nat} {w0 : World} (hB : Below B0 w0 w) (hBR : B0 ≤ R) :
    Blk ((((w.setCell ⟨R, 0, none⟩ x).setCell ⟨R, 1, none⟩ y).setCell ⟨R, 2, none⟩ z).setCell ⟨R, 3, none⟩ q) R t #[x, y, z, q] ∧
    (∀ v l, v.ownBlock ≠ some R → IsI w v l → IsI ((((w.setCell ⟨R, 0, none⟩ x).setCell ⟨R, 1, none⟩ y).setCell ⟨R, 2, none⟩ z).setCell ⟨R, 3, none⟩ q) v l) ∧
    (∀ v l, v.ownBlock ≠ some R → IsY w v l → IsY ((((w.setCell ⟨R, 0, none⟩ x).setCell ⟨R, 1, none⟩ y).setCell ⟨R, 2, none⟩ z).setCell ⟨R, 3, none⟩ q) v l) ∧
    Below B0 w0 ((((w.setCell ⟨R, 0, none⟩ x).setCell ⟨R, 1, none⟩ y).setCell ⟨R, 2, none⟩ z).setCell ⟨R, 3, none⟩ q) := by
  refine ⟨?_, fun v l hv h => (((h.farB (p := ⟨R, 0, none⟩) hv x).farB (p := ⟨R, 1, none⟩) hv y).farB (p := ⟨R, 2, none⟩) hv z).farB (p := ⟨R, 3, none⟩) hv q,
    fun v l hv h => (((h.farB (p := ⟨R, 0, none⟩) hv x).farB (p := ⟨R, 1, none⟩) hv y).farB (p := ⟨R, 2, none⟩) hv z).farB (p := ⟨R, 3, none⟩) hv q,
    (((hB.setCell (p := ⟨R, 0, none⟩) hBR x).setCell (p := ⟨R, 1, none⟩) hBR y).setCell (p := ⟨R, 2, none⟩) hBR z).setCell (p := ⟨R, 3, none⟩) hBR q⟩
  have := (((hR.set_ 0 x).set_ 1 y).set_ 2 z).set_ 3 q
  simpa using this
end
theorem great_take (l : List Int) (j : Nat) (h : j < l.length) : great (l.take (j + 1)) = max (max (great (l.take j)) (iat l j)) (-iat l j) := by rw [iat_snoc_take l j h, great_snoc]
/-- the codes of the first numbers -/
def codeTo (n : Nat) (l : List Int) (d : Int) (j : Nat) : List Nat := (l.take j).map fun x => codeOf n x d
theorem codeTo_len (n : Nat) (l : List Int) (d : Int) (j : Nat) (h : j ≤ l.length) : (codeTo n l d j).length = j := by unfold codeTo; simp; omega
theorem codeTo_succ (n : Nat) (l : List Int) (d : Int) (j : Nat) (h : j < l.length) : codeTo n l d (j + 1) = codeTo n l d j ++ [codeOf n (iat l j) d] := by unfold codeTo; rw [iat_snoc_take l j h]; simp
theorem codeTo_all (n : Nat) (l : List Int) : codeTo n l (max (great l) 1) l.length = packC n l := by unfold codeTo packC; rw [List.take_length]
set_option maxRecDepth 100000 in
set_option maxHeartbeats 8000000 in
theorem pack_kind (k : Int) (v : Value) (l : List Int) (w : World) (h : IsI w v l) (hk : ¬ (0 ≤ k ∧ k ≤ 4)) :
    Calls Tryz.prog 35 #[.int .i64 k, v] w fun e w' => ∃ b, e = .returned (.tuple #[b, .int .i64 1]) ∧ IsBk w' b 0 0 [] [] ∧ Below w.heap.size w w' := by
  obtain ⟨Aa, Ca, rfl, _, _⟩ := id h.form
  have hB0 := fun w => book_any k w
  have hSg := fun w => signed_any k w
  have hk1 : (k == 4) = false := by rw [beq_eq_false_iff_ne]; omega
  have hk2 : decide (k = 4) = false := decide_eq_false (by omega)
  rw [show bke k = 1 from if_neg (by omega)] at hB0
  generalize bkz k = lb at *
  obtain ⟨W0, hW, hR, hB⟩ := box1 w 43 #[.int .i64 0, .int .i64 0, .slice none 0 0, .slice none 0 0]
  obtain ⟨g, hg⟩ : ∃ g, g = w.heap.size := ⟨_, rfl⟩
  have hW' := Lib.hid (And.intro hW hg)
  rw [← hg] at hR
  have hgw : w.heap.size ≤ g := by omega
  clear hW hg
  skip
  replace h := h.below hB
  obtain ⟨c1_hR_0, c1_hR_1, c1_hR_2, c1_hR_3⟩ := hR.quad
  go_enter Tryz.func35, Tryz.ntmps35
  go_wp2_with fail
  rw [← hW'.out.1, ← hW'.out.2]
  refine (hB0 _).mono ?_
  rintro e w1 ⟨v1, rfl, h1, b1⟩
  replace h := h.below b1
  replace hR := hR.below b1 hR.lt
  replace hB := hB.trans (b1.mono hB.size)
  clear c1_hR_0 c1_hR_1 c1_hR_2 c1_hR_3
  obtain ⟨c2_hR_0, c2_hR_1, c2_hR_2, c2_hR_3⟩ := hR.quad
  obtain ⟨A1, C1, rfl, _, _⟩ := h1.form
  clear h1
  go_wp2_with fail
  refine (hSg _).mono ?_
  rintro e w2 ⟨rfl, rfl⟩
  obtain ⟨V1, eV, hS, bV1⟩ := box1 w1 4 #[.bool (sgn k)]
  obtain ⟨X1, eX⟩ : ∃ X, X = w1.heap.size := ⟨_, rfl⟩
  rw [← eX] at hS
  have EV1 := Lib.hid (And.intro eV eX)
  clear eV eX
  go_upto_region 4 with fail
  rw [← EV1.out.1, ← EV1.out.2]
  replace h := h.below bV1
  replace hR := hR.below bV1 hR.lt
  replace hB := hB.trans (bV1.mono hB.size)
  clear c2_hR_0 c2_hR_1 c2_hR_2 c2_hR_3
  obtain ⟨c3_hR_0, c3_hR_1, c3_hR_2, c3_hR_3⟩ := hR.quad
  clear c3_hR_0 c3_hR_1 c3_hR_2 c3_hR_3
  obtain ⟨c4_hR_0, c4_hR_1, c4_hR_2, c4_hR_3⟩ := hR.quad
  have c4_hS_0 := hS.cells1
  obtain ⟨p1, p2, p3, p4⟩ := putBlk hR (.int .i64 0) (.int .i64 0) (.slice none 0 0) (.slice none 0 0) hB (by omega)
  have q0 := hR.cell 0
  have z0 := hR.frozen 0
  have q1 := hR.cell 1
  have z1 := hR.frozen 1
  have q2 := hR.cell 2
  have z2 := hR.frozen 2
  have q3 := hR.cell 3
  have z3 := hR.frozen 3
  have P := Lib.hid (And.intro p4 p1.quad)
  clear p1 p2 p3 p4 
  go_wp2_with fail
  obtain ⟨P2, P3, P4, P5, P6⟩ := P.out
  exact bodyPost_ret (v := .tuple #[.agg #[.int .i64 0, .int .i64 0, .slice none 0 0, .slice none 0 0], .int .i64 1]) (by simp [results, Tryz.results35, go_sem, P3, P4, P5, P6, q0, q1, q2, q3]) rfl ⟨_, rfl, IsBk.nil _, P2⟩
set_option maxRecDepth 100000 in
set_option maxHeartbeats 8000000 in
theorem pack_odd (k : Int) (v : Value) (l : List Int) (w : World) (h : IsI w v l) (hk : 0 ≤ k ∧ k ≤ 3) (ho : l.any (oddB (sgn k)) = true) :
    Calls Tryz.prog 35 #[.int .i64 k, v] w fun e w' => ∃ b, e = .returned (.tuple #[b, .int .i64 1]) ∧ IsBk w' b 0 0 [] [] ∧ Below w.heap.size w w' := by
  obtain ⟨Aa, Ca, rfl, _, _⟩ := id h.form
  have hB0 := fun w => book_any k w
  have hSg := fun w => signed_any k w
  have hk1 : (k == 4) = false := by rw [beq_eq_false_iff_ne]; omega
  have hk2 : decide (k = 4) = false := decide_eq_false (by omega)
  rw [show bke k = 0 from if_pos (by omega)] at hB0
  generalize bkz k = lb at *
  clear hk
  obtain ⟨W0, hW, hR, hB⟩ := box1 w 43 #[.int .i64 0, .int .i64 0, .slice none 0 0, .slice none 0 0]
  obtain ⟨g, hg⟩ : ∃ g, g = w.heap.size := ⟨_, rfl⟩
  have hW' := Lib.hid (And.intro hW hg)
  rw [← hg] at hR
  have hgw : w.heap.size ≤ g := by omega
  clear hW hg
  skip
  replace h := h.below hB
  obtain ⟨c1_hR_0, c1_hR_1, c1_hR_2, c1_hR_3⟩ := hR.quad
  go_enter Tryz.func35, Tryz.ntmps35
  go_wp2_with fail
  rw [← hW'.out.1, ← hW'.out.2]
  refine (hB0 _).mono ?_
  rintro e w1 ⟨v1, rfl, h1, b1⟩
  replace h := h.below b1
  replace hR := hR.below b1 hR.lt
  replace hB := hB.trans (b1.mono hB.size)
  clear c1_hR_0 c1_hR_1 c1_hR_2 c1_hR_3
  obtain ⟨c2_hR_0, c2_hR_1, c2_hR_2, c2_hR_3⟩ := hR.quad
  obtain ⟨A1, C1, rfl, _, _⟩ := h1.form
  clear h1
  go_wp2_with fail
  refine (hSg _).mono ?_
  rintro e w2 ⟨rfl, rfl⟩
  obtain ⟨V1, eV, hS, bV1⟩ := box1 w1 4 #[.bool (sgn k)]
  obtain ⟨X1, eX⟩ : ∃ X, X = w1.heap.size := ⟨_, rfl⟩
  rw [← eX] at hS
  have EV1 := Lib.hid (And.intro eV eX)
  clear eV eX
  go_upto_region 4 with fail
  rw [← EV1.out.1, ← EV1.out.2]
  replace h := h.below bV1
  replace hR := hR.below bV1 hR.lt
  replace hB := hB.trans (bV1.mono hB.size)
  clear c2_hR_0 c2_hR_1 c2_hR_2 c2_hR_3
  obtain ⟨c3_hR_0, c3_hR_1, c3_hR_2, c3_hR_3⟩ := hR.quad
  clear c3_hR_0 c3_hR_1 c3_hR_2 c3_hR_3
  obtain ⟨c4_hR_0, c4_hR_1, c4_hR_2, c4_hR_3⟩ := hR.quad
  have c4_hS_0 := hS.cells1
  have hO := fun w h hC => containsOdd_any (.slice Aa l.length Ca) l X1 (sgn k) w h hC
  rw [ho] at hO
  go_wp2_with fail
  refine (hO _ h hS).mono ?_
  rintro e w3 ⟨rfl, rfl⟩
  obtain ⟨p1, p2, p3, p4⟩ := putBlk hR (.int .i64 0) (.int .i64 0) (.slice none 0 0) (.slice none 0 0) hB (by omega)
  have q0 := hR.cell 0
  have z0 := hR.frozen 0
  have q1 := hR.cell 1
  have z1 := hR.frozen 1
  have q2 := hR.cell 2
  have z2 := hR.frozen 2
  have q3 := hR.cell 3
  have z3 := hR.frozen 3
  have P := Lib.hid (And.intro p4 p1.quad)
  clear p1 p2 p3 p4 
  go_wp2_with fail
  obtain ⟨P2, P3, P4, P5, P6⟩ := P.out
  exact bodyPost_ret (v := .tuple #[.agg #[.int .i64 0, .int .i64 0, .slice none 0 0, .slice none 0 0], .int .i64 1]) (by simp [results, Tryz.results35, go_sem, P3, P4, P5, P6, q0, q1, q2, q3]) rfl ⟨_, rfl, IsBk.nil _, P2⟩
set_option maxRecDepth 100000 in
set_option maxHeartbeats 8000000 in
theorem pack_oddw (k : Int) (v : Value) (l : List Int) (w : World) (h : IsI w v l) (hk : k = 4) (ho : l.any (oddB true) = true) :
    Calls Tryz.prog 35 #[.int .i64 k, v] w fun e w' => ∃ b, e = .returned (.tuple #[b, .int .i64 1]) ∧ IsBk w' b 0 0 [] [] ∧ Below w.heap.size w w' := by
  obtain ⟨Aa, Ca, rfl, _, _⟩ := id h.form
  have hB0 := fun w => book_any k w
  have hSg := fun w => signed_any k w
  subst hk
  rw [show bke 4 = 1 from if_neg (by omega)] at hB0
  generalize bkz 4 = lb at *
  clear hSg
  obtain ⟨W0, hW, hR, hB⟩ := box1 w 43 #[.int .i64 0, .int .i64 0, .slice none 0 0, .slice none 0 0]
  obtain ⟨g, hg⟩ : ∃ g, g = w.heap.size := ⟨_, rfl⟩
  have hW' := Lib.hid (And.intro hW hg)
  rw [← hg] at hR
  have hgw : w.heap.size ≤ g := by omega
  clear hW hg
  skip
  replace h := h.below hB
  obtain ⟨c1_hR_0, c1_hR_1, c1_hR_2, c1_hR_3⟩ := hR.quad
  go_enter Tryz.func35, Tryz.ntmps35
  go_wp2_with fail
  rw [← hW'.out.1, ← hW'.out.2]
  refine (hB0 _).mono ?_
  rintro e w1 ⟨v1, rfl, h1, b1⟩
  replace h := h.below b1
  replace hR := hR.below b1 hR.lt
  replace hB := hB.trans (b1.mono hB.size)
  clear c1_hR_0 c1_hR_1 c1_hR_2 c1_hR_3
  obtain ⟨c2_hR_0, c2_hR_1, c2_hR_2, c2_hR_3⟩ := hR.quad
  obtain ⟨A1, C1, rfl, _, _⟩ := h1.form
  clear h1
  obtain ⟨V1, eV, hS, bV1⟩ := box1 w1 4 #[.bool true]
  obtain ⟨X1, eX⟩ : ∃ X, X = w1.heap.size := ⟨_, rfl⟩
  rw [← eX] at hS
  have EV1 := Lib.hid (And.intro eV eX)
  clear eV eX
  go_upto_region 4 with fail
  rw [← EV1.out.1, ← EV1.out.2]
  replace h := h.below bV1
  replace hR := hR.below bV1 hR.lt
  replace hB := hB.trans (bV1.mono hB.size)
  clear c2_hR_0 c2_hR_1 c2_hR_2 c2_hR_3
  obtain ⟨c3_hR_0, c3_hR_1, c3_hR_2, c3_hR_3⟩ := hR.quad
  clear c3_hR_0 c3_hR_1 c3_hR_2 c3_hR_3
  obtain ⟨c4_hR_0, c4_hR_1, c4_hR_2, c4_hR_3⟩ := hR.quad
  have c4_hS_0 := hS.cells1
  have hO := fun w h hC => containsOdd_any (.slice Aa l.length Ca) l X1 true w h hC
  rw [ho] at hO
  go_wp2_with fail
  refine (hO _ h hS).mono ?_
  rintro e w2 ⟨rfl, rfl⟩
  obtain ⟨p1, p2, p3, p4⟩ := putBlk hR (.int .i64 0) (.int .i64 0) (.slice none 0 0) (.slice none 0 0) hB (by omega)
  have q0 := hR.cell 0
  have z0 := hR.frozen 0
  have q1 := hR.cell 1
  have z1 := hR.frozen 1
  have q2 := hR.cell 2
  have z2 := hR.frozen 2
  have q3 := hR.cell 3
  have z3 := hR.frozen 3
  have P := Lib.hid (And.intro p4 p1.quad)
  clear p1 p2 p3 p4 
  go_wp2_with fail
  obtain ⟨P2, P3, P4, P5, P6⟩ := P.out
  exact bodyPost_ret (v := .tuple #[.agg #[.int .i64 0, .int .i64 0, .slice none 0 0, .slice none 0 0], .int .i64 1]) (by simp [results, Tryz.results35, go_sem, P3, P4, P5, P6, q0, q1, q2, q3]) rfl ⟨_, rfl, IsBk.nil _, P2⟩
set_option maxRecDepth 100000 in
set_option maxHeartbeats 8000000 in
theorem pack_wideF (k : Int) (v : Value) (l : List Int) (w : World) (h : IsI w v l) (hk : k = 4) (hl : l.length ≤ 4096) (ho : l.any (oddB true) = false) :
    Calls Tryz.prog 35 #[.int .i64 k, v] w fun e w' => ∃ b, e = .returned (.tuple #[b, .int .i64 0]) ∧ IsBk w' b 4 0 [] l ∧ Below w.heap.size w w' ∧ FreshB w.heap.size b := by
  obtain ⟨Aa, Ca, rfl, _, _⟩ := id h.form
  have hB0 := fun w => book_any k w
  have hSg := fun w => signed_any k w
  subst hk
  rw [show bke 4 = 1 from if_neg (by omega)] at hB0
  generalize bkz 4 = lb at *
  clear hSg
  have hCl := fun w h => clone_i64 (.slice Aa l.length Ca) l w h (by omega)
  have hl1 : decide ((4096 : Int) < (l.length : Int)) = false := decide_eq_false (by omega)
  have hl2 : decide (4096 < l.length) = false := decide_eq_false (by omega)
  have hl3 : ¬ 4096 < l.length := by omega
  obtain ⟨W0, hW, hR, hB⟩ := box1 w 43 #[.int .i64 0, .int .i64 0, .slice none 0 0, .slice none 0 0]
  obtain ⟨g, hg⟩ : ∃ g, g = w.heap.size := ⟨_, rfl⟩
  have hW' := Lib.hid (And.intro hW hg)
  rw [← hg] at hR
  have hgw : w.heap.size ≤ g := by omega
  clear hW hg
  skip
  replace h := h.below hB
  obtain ⟨c1_hR_0, c1_hR_1, c1_hR_2, c1_hR_3⟩ := hR.quad
  go_enter Tryz.func35, Tryz.ntmps35
  go_wp2_with fail
  rw [← hW'.out.1, ← hW'.out.2]
  refine (hB0 _).mono ?_
  rintro e w1 ⟨v1, rfl, h1, b1⟩
  replace h := h.below b1
  replace hR := hR.below b1 hR.lt
  replace hB := hB.trans (b1.mono hB.size)
  clear c1_hR_0 c1_hR_1 c1_hR_2 c1_hR_3
  obtain ⟨c2_hR_0, c2_hR_1, c2_hR_2, c2_hR_3⟩ := hR.quad
  obtain ⟨A1, C1, rfl, _, _⟩ := h1.form
  clear h1
  obtain ⟨V1, eV, hS, bV1⟩ := box1 w1 4 #[.bool true]
  obtain ⟨X1, eX⟩ : ∃ X, X = w1.heap.size := ⟨_, rfl⟩
  rw [← eX] at hS
  have EV1 := Lib.hid (And.intro eV eX)
  clear eV eX
  go_upto_region 4 with fail
  rw [← EV1.out.1, ← EV1.out.2]
  replace h := h.below bV1
  replace hR := hR.below bV1 hR.lt
  replace hB := hB.trans (bV1.mono hB.size)
  clear c2_hR_0 c2_hR_1 c2_hR_2 c2_hR_3
  obtain ⟨c3_hR_0, c3_hR_1, c3_hR_2, c3_hR_3⟩ := hR.quad
  clear c3_hR_0 c3_hR_1 c3_hR_2 c3_hR_3
  obtain ⟨c4_hR_0, c4_hR_1, c4_hR_2, c4_hR_3⟩ := hR.quad
  have c4_hS_0 := hS.cells1
  have hO := fun w h hC => containsOdd_any (.slice Aa l.length Ca) l X1 true w h hC
  rw [ho] at hO
  go_wp2_with fail
  refine (hO _ h hS).mono ?_
  rintro e w2 ⟨rfl, rfl⟩
  have hR0 := hR.lt
  have hFs := hB.size
  go_wp2_with fail
  refine (hCl _ h).mono ?_
  rintro e w3 ⟨v2, rfl, h2, h3, b3⟩
  replace h := h.below b3
  replace hR := hR.below b3 hR.lt
  replace hS := hS.below b3 hS.lt
  replace hB := hB.trans (b3.mono hB.size)
  clear c4_hR_0 c4_hR_1 c4_hR_2 c4_hR_3 c4_hS_0
  obtain ⟨c5_hR_0, c5_hR_1, c5_hR_2, c5_hR_3⟩ := hR.quad
  have c5_hS_0 := hS.cells1
  obtain ⟨A2, C2, rfl, _, _⟩ := id h2.form
  obtain ⟨p1, p2, p3, p4⟩ := putBlk hR (.int .i64 4) (.int .i64 0) (.slice none 0 0) (.slice A2 l.length C2) hB (by omega)
  have q0 := hR.cell 0
  have z0 := hR.frozen 0
  have q1 := hR.cell 1
  have z1 := hR.frozen 1
  have q2 := hR.cell 2
  have z2 := hR.frozen 2
  have q3 := hR.cell 3
  have z3 := hR.frozen 3
  have P := Lib.hid (And.intro ((⟨_, _, rfl, IsY.nil _, p2 _ _ (h3.ne hR0) h2⟩ : IsBk _ (.agg #[.int .i64 4, .int .i64 0, .slice none 0 0, .slice A2 l.length C2]) 4 0 [] l)) (And.intro p4 p1.quad))
  have F9 := Lib.hid (⟨_, _, _, _, rfl, Fresh.nil _, h3.more hFs⟩ : FreshB w.heap.size (.agg #[.int .i64 4, .int .i64 0, .slice none 0 0, .slice A2 l.length C2]))
  clear p1 p2 p3 p4 
  go_wp2_with fail
  obtain ⟨P1, P2, P3, P4, P5, P6⟩ := P.out
  exact bodyPost_ret (v := .tuple #[.agg #[.int .i64 4, .int .i64 0, .slice none 0 0, .slice A2 l.length C2], .int .i64 0]) (by simp [results, Tryz.results35, go_sem, P3, P4, P5, P6, q0, q1, q2, q3]) rfl ⟨_, rfl, P1, P2, F9.out⟩
set_option maxRecDepth 100000 in
set_option maxHeartbeats 8000000 in
theorem pack_codedF (k : Int) (v : Value) (l : List Int) (w : World) (h : IsI w v l) (n : Nat) (hn : n < 4) (hkn : k = n) (hl : l.length ≤ 4096) (hi : ∀ x ∈ l, I64 x) (ho : l.any (oddB (sgn (n : Nat))) = false) :
    Calls Tryz.prog 35 #[.int .i64 k, v] w fun e w' => ∃ b, e = .returned (.tuple #[b, .int .i64 0]) ∧ IsBk w' b n (great l) (packC n l) [] ∧ Below w.heap.size w w' ∧ FreshB w.heap.size b := by
  obtain ⟨Aa, Ca, rfl, _, _⟩ := id h.form
  have hB0 := fun w => book_any k w
  have hSg := fun w => signed_any k w
  subst hkn
  have hk1 : ((n : Int) == 4) = false := by rw [beq_eq_false_iff_ne]; omega
  have hk2 : decide ((n : Int) = 4) = false := decide_eq_false (by omega)
  rw [show bke n = 0 from if_pos (by omega)] at hB0
  generalize bkz n = lb at *
  have hl1 : decide ((4096 : Int) < (l.length : Int)) = false := decide_eq_false (by omega)
  have hl2 : decide (4096 < l.length) = false := decide_eq_false (by omega)
  have hl3 : ¬ 4096 < l.length := by omega
  have hmin : ∀ x ∈ l, x ≠ -9223372036854775808 := fun x hx e => by
    have : l.any (oddB (sgn (n : Nat))) = true := List.any_eq_true.2 ⟨x, hx, by unfold oddB; simp [e]⟩
    rw [ho] at this; cases this
  have HW : Hid (∀ j, j < l.length → IntKind.i64.wrap (-(iat l j)) = -(iat l j)) := Lib.hid (fun j hj => by
    have h1 := hi _ (iat_mem hj)
    have h2 := hmin _ (iat_mem hj)
    unfold I64 at h1
    rw [IntKind.wrap_i64]; omega)
  have hg1 := great_in hi hmin
  have hg0 := great_nonneg l
  have hNr : ∀ j, j < l.length → ∀ w, Calls Tryz.prog 50 #[.int .i64 n, .int .i64 (iat l j), .int .i64 (max (great l) 1)] w fun e w' => e = .returned (.tuple #[.int .u8 (codeOf n (iat l j) (max (great l) 1) : Nat), .int .i64 (codeE n (iat l j) (max (great l) 1))]) ∧ Below w.heap.size w w' := fun j hj w => near_any n _ _ w (hi _ (iat_mem hj)) (by unfold I64; omega)
  have hM3 := @run_max3_int Tryz.prog
  have hM2 := @run_max_int Tryz.prog
  clear hmin hi
  generalize sgn (n : Nat) = sg at *
  obtain ⟨W0, hW, hR, hB⟩ := box1 w 43 #[.int .i64 0, .int .i64 0, .slice none 0 0, .slice none 0 0]
  obtain ⟨g, hg⟩ : ∃ g, g = w.heap.size := ⟨_, rfl⟩
  have hW' := Lib.hid (And.intro hW hg)
  rw [← hg] at hR
  have hgw : w.heap.size ≤ g := by omega
  clear hW hg
  skip
  replace h := h.below hB
  obtain ⟨c1_hR_0, c1_hR_1, c1_hR_2, c1_hR_3⟩ := hR.quad
  go_enter Tryz.func35, Tryz.ntmps35
  go_wp2_with fail
  rw [← hW'.out.1, ← hW'.out.2]
  refine (hB0 _).mono ?_
  rintro e w1 ⟨v1, rfl, h1, b1⟩
  replace h := h.below b1
  replace hR := hR.below b1 hR.lt
  replace hB := hB.trans (b1.mono hB.size)
  clear c1_hR_0 c1_hR_1 c1_hR_2 c1_hR_3
  obtain ⟨c2_hR_0, c2_hR_1, c2_hR_2, c2_hR_3⟩ := hR.quad
  obtain ⟨A1, C1, rfl, _, _⟩ := h1.form
  clear h1
  go_wp2_with fail
  refine (hSg _).mono ?_
  rintro e w2 ⟨rfl, rfl⟩
  obtain ⟨V1, eV, hS, bV1⟩ := box1 w1 4 #[.bool sg]
  obtain ⟨X1, eX⟩ : ∃ X, X = w1.heap.size := ⟨_, rfl⟩
  rw [← eX] at hS
  have EV1 := Lib.hid (And.intro eV eX)
  clear eV eX
  go_upto_region 4 with fail
  rw [← EV1.out.1, ← EV1.out.2]
  replace h := h.below bV1
  replace hR := hR.below bV1 hR.lt
  replace hB := hB.trans (bV1.mono hB.size)
  clear c2_hR_0 c2_hR_1 c2_hR_2 c2_hR_3
  obtain ⟨c3_hR_0, c3_hR_1, c3_hR_2, c3_hR_3⟩ := hR.quad
  clear c3_hR_0 c3_hR_1 c3_hR_2 c3_hR_3
  obtain ⟨c4_hR_0, c4_hR_1, c4_hR_2, c4_hR_3⟩ := hR.quad
  have c4_hS_0 := hS.cells1
  have hO := fun w h hC => containsOdd_any (.slice Aa l.length Ca) l X1 sg w h hC
  rw [ho] at hO
  go_wp2_with fail
  refine (hO _ h hS).mono ?_
  rintro e w3 ⟨rfl, rfl⟩
  have h9 := h
  have hR9 := hR
  have hw9 := hB
  obtain ⟨V2, eV, hX, bV2⟩ := box1 V1 43 #[.int .i64 n, .int .i64 0, .slice none 0 0, .slice none 0 0]
  obtain ⟨X2, eX⟩ : ∃ X, X = V1.heap.size := ⟨_, rfl⟩
  rw [← eX] at hX
  have EV2 := Lib.hid (And.intro eV eX)
  clear eV eX
  go_upto_region 13 with fail
  rw [← EV2.out.1, ← EV2.out.2]
  replace h := h.below bV2
  replace hR := hR.below bV2 hR.lt
  replace hS := hS.below bV2 hS.lt
  replace hB := hB.trans (bV2.mono hB.size)
  clear c4_hR_0 c4_hR_1 c4_hR_2 c4_hR_3 c4_hS_0
  obtain ⟨c5_hR_0, c5_hR_1, c5_hR_2, c5_hR_3⟩ := hR.quad
  have c5_hS_0 := hS.cells1
  clear c5_hR_0 c5_hR_1 c5_hR_2 c5_hR_3 c5_hS_0
  obtain ⟨c6_hR_0, c6_hR_1, c6_hR_2, c6_hR_3⟩ := hR.quad
  have c6_hS_0 := hS.cells1
  obtain ⟨c6_hX_0, c6_hX_1, c6_hX_2, c6_hX_3⟩ := hX.quad
  have hXs : V1.heap.size ≤ X2 := by rw [EV2.out.2]; exact Nat.le_refl _
  have hgV := hR9.lt
  have h0 := Lib.hid h9
  clear h hR hS
  go_wp2
  go_loopw [57] (fun i wr => ∃ j : Nat, i = .int .i64 j ∧ j ≤ l.length ∧ Blk wr X2 43 #[.int .i64 n, .int .i64 (great (l.take j)), .slice none 0 0, .slice none 0 0] ∧ Below V1.heap.size V1 wr) (fun i _ => l.length - (intOf i).toNat)
  case atStart => exact ⟨0, rfl, by omega, by rw [List.take_zero]; exact hX, bV2⟩
  case round =>
    clear hX
    obtain ⟨j, rfl, hj, hX, bl⟩ := hrel
    obtain ⟨x0, x1, x2, x3⟩ := hX.quad
    have z1 := hX.frozen 1
    have z2 := hX.frozen 2
    have h := h0.out.below bl
    by_cases hlt : j < l.length
    · obtain ⟨ad, rfl, hc⟩ := h.at_ hlt
      have HS := Lib.hid (great_take l j hlt)
      have i0 : (0 : Int) ≤ (j : Int) := by omega
      have i1 : (j : Int) < (l.length : Int) := by omega
      have hw := HW.out j hlt
      generalize iat l j = x at *
      generalize great (l.take j) = s0 at *
      go_wp2
      have q := hX.set_ 1 (.int .i64 (max (max s0 x) (-x)))
      refine ⟨⟨j + 1, by go_num, by omega, ?_, bl.setCell (p := ⟨X2, 1, none⟩) hXs _⟩, by simp [intOf]; omega⟩
      rw [HS.out]
      simpa using q
    · obtain rfl : j = l.length := by omega
      rw [List.take_length] at hX x1
      go_wp2
      go_loopw [71] (fun i wr => ∃ (j : Nat) (a : Value), i = .int .i64 j ∧ j ≤ l.length ∧ Blk wr X2 43 #[.int .i64 n, .int .i64 (great l), a, .slice none 0 0] ∧ wr.ownsRow V1.heap.size 5 1 a j (ys (codeTo n l (max (great l) 1) j)) ∧ Below V1.heap.size V1 wr) (fun i _ => l.length - (intOf i).toNat)
      case atStart => exact ⟨0, _, rfl, by omega, hX, ⟨by simp [codeTo, ys], .inl ⟨rfl, rfl⟩⟩, bl⟩
      case round =>
        clear hX x0 x1 x2 x3 z1 z2 bl h
        obtain ⟨j, a, rfl, hj, hX, hown, bl⟩ := hrel
        obtain ⟨x0, x1, x2, x3⟩ := hX.quad
        have z2 := hX.frozen 2
        have h := h0.out.below bl
        by_cases hlt : j < l.length
        · obtain ⟨ad, rfl, hc⟩ := h.at_ hlt
          have HS := Lib.hid (codeTo_succ n l (max (great l) 1) j hlt)
          have hol := Lib.hid (codeTo_len n l (max (great l) 1) j hj)
          have i0 : (0 : Int) ≤ (j : Int) := by omega
          have i1 : (j : Int) < (l.length : Int) := by omega
          have hN := hNr j hlt
          have hcl := codeOf_le n (iat l j) (max (great l) 1)
          generalize hcd : codeOf n (iat l j) (max (great l) 1) = cd at *
          have hu : IntKind.u8.wrap (cd : Int) = cd := by rw [IntKind.wrap_u8]; omega
          generalize codeE n (iat l j) (max (great l) 1) = ce at *
          generalize iat l j = x at *
          clear hcd
          go_wp2_with fail
          refine (hN _).mono ?_
          rintro e w9 ⟨rfl, b9⟩
          have hX9 := hX.below b9 hX.lt
          have own9 := own_below hown b9
          have bl9 := bl.trans (b9.mono bl.size)
          clear x0 x1 x2 x3 z2 hX hown bl b9 h hc
          obtain ⟨x0, x1, x2, x3⟩ := hX9.quad
          have hXa := hX9.alloc (.cells #[.int .u8 (cd : Int)] 5)
          have hbs : V1.heap.size ≤ w9.heap.size + 1 := Nat.le_succ_of_le bl9.size
          have hne : (43 : TypeId) ≠ 5 := by decide
          go_wp2_with (at_builtin; go_must (refine wpList_app1 _ rfl _ _ 41 5 (.int .u8 0) 1 rfl Tryz.underlying41 info_u8 rfl V1.heap.size (.int .u8 (cd : Int)) rfl a j _ rfl (own9.alloc _) ⟨w9.heap.size, 0, none⟩ rfl (by simp) (by omega) (by omega) (by simp; exact hbs) ?_; intro v' w1 hown' hgrow; obtain ⟨g', cap', rfl⟩ := ownsRow_succ hown'; have hX1 := hXa.grown hgrow (fun e => own_typeB (own9.alloc _) hXa hne e.symm); obtain ⟨y0, y1, y2, y3⟩ := hX1.quad; have yz := hX1.frozen 2))
          have hX2 := hX1.set_ 2 (.slice (some ⟨g', 0, none⟩) (j + 1) cap')
          have own2 := own_setB hown' (p := ⟨X2, 2, none⟩) (own_typeB hown' hX1 hne) (.slice (some ⟨g', 0, none⟩) (j + 1) cap')
          have bl2 := ((bl9.alloc bl9.size (.cells #[.int .u8 (cd : Int)] 5)).grown hgrow (by simp; exact hbs) (fun j e => (own9.lt j e).1)).setCell (p := ⟨X2, 2, none⟩) hXs (.slice (some ⟨g', 0, none⟩) (j + 1) cap')
          refine ⟨⟨j + 1, _, by go_num, by omega, by simpa using hX2, ?_, bl2⟩, by simp [intOf]; omega⟩
          rw [HS.out, ys_snoc]
          exact own2
        · obtain rfl : j = l.length := by omega
          rw [codeTo_all] at hown
          have hR := hR9.below bl hR9.lt
          have hB := hw9.trans (bl.mono hw9.size)
          have hpl : (packC n l).length = l.length := packC_len _ _
          have hab : a.ownBlock ≠ some g := fun e => by have := (hown.lt g e).1; omega
          have hy : IsY wr a (packC n l) := IsY.of_own (by rw [hpl]; exact hown) packC_lt
          obtain ⟨A5, C5, rfl, _, _⟩ := id hy.form
          rw [hpl] at *
          obtain ⟨p1, p2, p3, p4⟩ := putBlk hR (.int .i64 n) (.int .i64 (great l)) (.slice A5 l.length C5) (.slice none 0 0) hB (by omega)
          have q0 := hR.cell 0
          have z0 := hR.frozen 0
          have q1 := hR.cell 1
          have z1 := hR.frozen 1
          have q2 := hR.cell 2
          have z2 := hR.frozen 2
          have q3 := hR.cell 3
          have z3 := hR.frozen 3
          have P := Lib.hid (And.intro ((⟨_, _, rfl, p3 _ _ hab hy, IsI.nil _⟩ : IsBk _ (.agg #[.int .i64 n, .int .i64 (great l), .slice A5 l.length C5, .slice none 0 0]) n (great l) (packC n l) [])) (And.intro p4 p1.quad))
          have F9 := Lib.hid (⟨_, _, _, _, rfl, (Fresh.of_own hown).more hw9.size, Fresh.nil _⟩ : FreshB w.heap.size (.agg #[.int .i64 n, .int .i64 (great l), .slice A5 l.length C5, .slice none 0 0]))
          clear p1 p2 p3 p4 h hab hy hown
          go_wp2_with fail
          obtain ⟨P1, P2, P3, P4, P5, P6⟩ := P.out
          exact bodyPost_ret (v := .tuple #[.agg #[.int .i64 n, .int .i64 (great l), .slice A5 l.length C5, .slice none 0 0], .int .i64 0]) (by simp [results, Tryz.results35, go_sem, P3, P4, P5, P6, q0, q1, q2, q3]) rfl ⟨_, rfl, P1, P2, F9.out⟩
theorem pack_wide (k : Int) (v : Value) (l : List Int) (w : World) (h : IsI w v l) (hk : k = 4) (hl : l.length ≤ 4096) (ho : l.any (oddB true) = false) :
    Calls Tryz.prog 35 #[.int .i64 k, v] w fun e w' => ∃ b, e = .returned (.tuple #[b, .int .i64 0]) ∧ IsBk w' b 4 0 [] l ∧ Below w.heap.size w w' :=
  (pack_wideF k v l w h hk hl ho).mono fun _ _ ⟨b, h1, h2, h3, _⟩ => ⟨b, h1, h2, h3⟩
theorem pack_coded (k : Int) (v : Value) (l : List Int) (w : World) (h : IsI w v l) (n : Nat) (hn : n < 4) (hkn : k = n) (hl : l.length ≤ 4096) (hi : ∀ x ∈ l, I64 x) (ho : l.any (oddB (sgn (n : Nat))) = false) :
    Calls Tryz.prog 35 #[.int .i64 k, v] w fun e w' => ∃ b, e = .returned (.tuple #[b, .int .i64 0]) ∧ IsBk w' b n (great l) (packC n l) [] ∧ Below w.heap.size w w' :=
  (pack_codedF k v l w h n hn hkn hl hi ho).mono fun _ _ ⟨b, h1, h2, h3, _⟩ => ⟨b, h1, h2, h3⟩
end Go.Proofs.YtochabikpaoalaaGreat
