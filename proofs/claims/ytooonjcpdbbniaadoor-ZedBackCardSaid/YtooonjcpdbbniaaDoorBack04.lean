/- ZedBack: what is printed is read as it; what is read is printed as it stood. No conditions: every input. -/
import Derived.Test.YtooonjcpdbbniaaDoorAid04
namespace Go.Proofs.YtooonjcpdbbniaaDoor
open Go.RowKit Go.Lib Go.Shelf
attribute [local go_sem ↓] Go.wp_at_zero Go.wp_at_succ
set_option maxRecDepth 100000 in
set_option maxHeartbeats 4000000 in
theorem ZedBack_unfew (b : Bool) (A : Option Addr) (C : Nat) (ll : List Nat) (l : List UInt8) (w : World) (h : IsL w (.slice A ll.length C) ll) (ht : TabOk w) (hfw : (decide (ll.length ≤ 10) && rightZ b ll) = false) :
    Calls Tryd.prog 4 #[.agg #[.bool b, .slice A ll.length C], strV l] w fun e w' => e = .returned (.bool true) ∧ Below w.heap.size w w' := by
  have hF := fun w h => rzfew_any b (.slice A ll.length C) ll 10 w h
  rw [hfw] at hF
  have hE := fun w ht => alive04_any w ht
  obtain ⟨W0, hW, hR, hB⟩ := box1 w 25 #[.bool b, .slice A ll.length C]
  obtain ⟨g, hg⟩ : ∃ g, g = w.heap.size := ⟨_, rfl⟩
  have hW' := Lib.hid (And.intro hW hg)
  rw [← hg] at hR
  have hgw : w.heap.size ≤ g := by omega
  clear hW hg
  have hA := hR
  replace h := h.below hB
  replace ht := ht.below hB
  obtain ⟨c1_hA_0, c1_hA_1⟩ := hA.cells2
  go_enter Tryd.func4, Tryd.ntmps4
  go_wp2_with fail
  rw [← hW'.out.1, ← hW'.out.2]
  refine (hF _ h).mono ?_
  rintro e w1 ⟨rfl, b1⟩
  replace h := h.below b1
  replace ht := ht.below b1
  replace hA := hA.below b1 hA.lt
  replace hB := hB.trans (b1.mono hB.size)
  clear c1_hA_0 c1_hA_1
  obtain ⟨c2_hA_0, c2_hA_1⟩ := hA.cells2
  go_wp2_with fail
  refine (hE _ ht).mono ?_
  rintro e w2 ⟨rfl, b2⟩
  replace h := h.below b2
  replace ht := ht.below b2
  replace hA := hA.below b2 hA.lt
  replace hB := hB.trans (b2.mono hB.size)
  clear c2_hA_0 c2_hA_1
  obtain ⟨c3_hA_0, c3_hA_1⟩ := hA.cells2
  go_wp2_with fail
  go_ret
  exact ⟨rfl, hB⟩
set_option maxRecDepth 100000 in
set_option maxHeartbeats 4000000 in
theorem ZedBack_long (b : Bool) (A : Option Addr) (C : Nat) (ll : List Nat) (l : List UInt8) (w : World) (h : IsL w (.slice A ll.length C) ll) (ht : TabOk w) (hfw : (decide (ll.length ≤ 10) && rightZ b ll) = true) (hl : 400 < l.length) :
    Calls Tryd.prog 4 #[.agg #[.bool b, .slice A ll.length C], strV l] w fun e w' => e = .returned (.bool true) ∧ Below w.heap.size w w' := by
  have hgt : decide ((400 : Int) < (l.length : Int)) = true := decide_eq_true (by omega)
  have hsz : (⟨l.toArray⟩ : ByteArray).size = l.length := by simp [ByteArray.size]
  have hF := fun w h => rzfew_any b (.slice A ll.length C) ll 10 w h
  rw [hfw] at hF
  have hE := fun w ht => alive04_any w ht
  obtain ⟨W0, hW, hR, hB⟩ := box1 w 25 #[.bool b, .slice A ll.length C]
  obtain ⟨g, hg⟩ : ∃ g, g = w.heap.size := ⟨_, rfl⟩
  have hW' := Lib.hid (And.intro hW hg)
  rw [← hg] at hR
  have hgw : w.heap.size ≤ g := by omega
  clear hW hg
  have hA := hR
  replace h := h.below hB
  replace ht := ht.below hB
  obtain ⟨c1_hA_0, c1_hA_1⟩ := hA.cells2
  go_enter Tryd.func4, Tryd.ntmps4
  go_wp2_with fail
  rw [← hW'.out.1, ← hW'.out.2]
  refine (hF _ h).mono ?_
  rintro e w1 ⟨rfl, b1⟩
  replace h := h.below b1
  replace ht := ht.below b1
  replace hA := hA.below b1 hA.lt
  replace hB := hB.trans (b1.mono hB.size)
  clear c1_hA_0 c1_hA_1
  obtain ⟨c2_hA_0, c2_hA_1⟩ := hA.cells2
  go_wp2_with fail
  refine (hE _ ht).mono ?_
  rintro e w2 ⟨rfl, b2⟩
  replace h := h.below b2
  replace ht := ht.below b2
  replace hA := hA.below b2 hA.lt
  replace hB := hB.trans (b2.mono hB.size)
  clear c2_hA_0 c2_hA_1
  obtain ⟨c3_hA_0, c3_hA_1⟩ := hA.cells2
  go_wp2_with fail
  go_ret
  exact ⟨rfl, hB⟩
set_option maxRecDepth 100000 in
set_option maxHeartbeats 4000000 in
theorem ZedBack_bad (b : Bool) (A : Option Addr) (C : Nat) (ll : List Nat) (l : List UInt8) (w : World) (h : IsL w (.slice A ll.length C) ll) (ht : TabOk w) (hr : rightZ b ll = true) (h10 : ll.length ≤ 10) (hl : l.length ≤ 400) (he : (readT l).2.2 ≠ 0) :
    Calls Tryd.prog 4 #[.agg #[.bool b, .slice A ll.length C], strV l] w fun e w' => e = .returned (.bool true) ∧ Below w.heap.size w w' := by
  have hfw : (decide (ll.length ≤ 10) && rightZ b ll) = true := by rw [decide_eq_true h10, hr]; rfl
  have hF := fun w h => rzfew_any b (.slice A ll.length C) ll 10 w h
  rw [hfw] at hF
  obtain ⟨hz, hzl⟩ := isZ_right h hr
  obtain ⟨z, hze⟩ : ∃ z, z = sided b (num ll) := ⟨_, rfl⟩
  rw [← hze] at hz hzl
  have hd := dec_200 (n := z.natAbs) (by omega)
  have hgt : decide ((400 : Int) < (l.length : Int)) = false := decide_eq_false (by omega)
  have hsz : (⟨l.toArray⟩ : ByteArray).size = l.length := by simp [ByteArray.size]
  have hP := fun w h ht => pzprint_any (.agg #[.bool b, .slice A ll.length C]) z w h (by omega) (Nat.le_trans hd (by decide)) ht
  obtain ⟨bz, hbz⟩ : ∃ bz, decide (z < 0) = bz := ⟨_, rfl⟩
  have hRd := fun w => zread_as (itoa z) z 0 0 bz hbz (read_text z (by have := itoa_len z; omega)) w
  have hS := fun va vb w h1 h2 => rzsame_any va vb z z w h1 h2
  rw [show decide (z = z) = true from decide_eq_true rfl] at hS
  have hE := fun w ht => alive04_any w ht
  obtain ⟨e1, e2, e3, e4⟩ := read_bad hl he
  obtain ⟨at2, hat⟩ : ∃ x, x = (readT l).2.1 := ⟨_, rfl⟩
  rw [← hat] at e2 e3
  obtain ⟨sg2, hb2⟩ : ∃ q : Bool, q = false := ⟨_, rfl⟩
  have hR2 := fun w => zread_as l 0 at2 3 sg2 (by rw [hb2]; rfl) (Prod.ext e1 (Prod.ext hat.symm e4)) w
  have hS2 := fun va w h1 => rzsame_any va (.agg #[.bool false, .slice none 0 0]) 0 0 w h1 ⟨_, rfl, IsN.zero _⟩
  rw [show decide ((0 : Int) = 0) = true from rfl] at hS2
  have hge : decide ((0 : Int) ≤ at2) = true := decide_eq_true e2
  have hle : decide (at2 ≤ (l.length : Int)) = true := decide_eq_true e3
  clear e1 e2 e3 e4 hat he hb2 hze hzl hd hbz
  obtain ⟨W0, hW, hR, hB⟩ := box1 w 25 #[.bool b, .slice A ll.length C]
  obtain ⟨g, hg⟩ : ∃ g, g = w.heap.size := ⟨_, rfl⟩
  have hW' := Lib.hid (And.intro hW hg)
  rw [← hg] at hR
  have hgw : w.heap.size ≤ g := by omega
  clear hW hg
  have hA := hR
  replace hz := hz.below hB
  replace h := h.below hB
  replace ht := ht.below hB
  obtain ⟨c1_hA_0, c1_hA_1⟩ := hA.cells2
  go_enter Tryd.func4, Tryd.ntmps4
  go_wp2_with fail
  rw [← hW'.out.1, ← hW'.out.2]
  refine (hF _ h).mono ?_
  rintro e w1 ⟨rfl, b1⟩
  replace hz := hz.below b1
  replace h := h.below b1
  replace ht := ht.below b1
  replace hA := hA.below b1 hA.lt
  replace hB := hB.trans (b1.mono hB.size)
  clear c1_hA_0 c1_hA_1
  obtain ⟨c2_hA_0, c2_hA_1⟩ := hA.cells2
  go_wp2_with fail
  refine (hP _ hz ht).mono ?_
  rintro e w2 ⟨rfl, b2⟩
  replace hz := hz.below b2
  replace h := h.below b2
  replace ht := ht.below b2
  replace hA := hA.below b2 hA.lt
  replace hB := hB.trans (b2.mono hB.size)
  clear c2_hA_0 c2_hA_1
  obtain ⟨c3_hA_0, c3_hA_1⟩ := hA.cells2
  go_wp2_with fail
  refine (hRd _).mono ?_
  rintro e w3 ⟨A1, L1, C1, rfl, h1, b3⟩
  replace hz := hz.below b3
  replace h := h.below b3
  replace ht := ht.below b3
  replace hA := hA.below b3 hA.lt
  replace hB := hB.trans (b3.mono hB.size)
  clear c3_hA_0 c3_hA_1
  obtain ⟨c4_hA_0, c4_hA_1⟩ := hA.cells2
  obtain ⟨V1, eV, hX, bV1⟩ := box1 w3 25 #[.bool bz, .slice A1 L1 C1]
  obtain ⟨X1, eX⟩ : ∃ X, X = w3.heap.size := ⟨_, rfl⟩
  rw [← eX] at hX
  have EV1 := Lib.hid (And.intro eV eX)
  clear eV eX
  go_upto_region 4 with fail
  rw [← EV1.out.1, ← EV1.out.2]
  replace hz := hz.below bV1
  replace h := h.below bV1
  replace ht := ht.below bV1
  replace hA := hA.below bV1 hA.lt
  replace h1 := h1.below bV1
  replace hB := hB.trans (bV1.mono hB.size)
  clear c4_hA_0 c4_hA_1
  obtain ⟨c5_hA_0, c5_hA_1⟩ := hA.cells2
  clear c5_hA_0 c5_hA_1
  obtain ⟨c6_hA_0, c6_hA_1⟩ := hA.cells2
  obtain ⟨c6_hX_0, c6_hX_1⟩ := hX.cells2
  go_wp2_with fail
  refine (hS _ _ _ h1 hz).mono ?_
  rintro e w4 ⟨rfl, b4⟩
  replace hz := hz.below b4
  replace h := h.below b4
  replace ht := ht.below b4
  replace hA := hA.below b4 hA.lt
  replace h1 := h1.below b4
  replace hX := hX.below b4 hX.lt
  replace hB := hB.trans (b4.mono hB.size)
  clear c6_hA_0 c6_hA_1 c6_hX_0 c6_hX_1
  obtain ⟨c7_hA_0, c7_hA_1⟩ := hA.cells2
  obtain ⟨c7_hX_0, c7_hX_1⟩ := hX.cells2
  go_wp2_with fail
  refine (hR2 _).mono ?_
  rintro e w5 ⟨A2, L2, C2, rfl, h2, b5⟩
  replace hz := hz.below b5
  replace h := h.below b5
  replace ht := ht.below b5
  replace hA := hA.below b5 hA.lt
  replace h1 := h1.below b5
  replace hX := hX.below b5 hX.lt
  replace hB := hB.trans (b5.mono hB.size)
  clear c7_hA_0 c7_hA_1 c7_hX_0 c7_hX_1
  obtain ⟨c8_hA_0, c8_hA_1⟩ := hA.cells2
  obtain ⟨c8_hX_0, c8_hX_1⟩ := hX.cells2
  obtain ⟨V2, eV, hY, bV2⟩ := box1 w5 25 #[.bool sg2, .slice A2 L2 C2]
  obtain ⟨X2, eX⟩ : ∃ X, X = w5.heap.size := ⟨_, rfl⟩
  rw [← eX] at hY
  have EV2 := Lib.hid (And.intro eV eX)
  clear eV eX
  go_upto_region 7 with fail
  rw [← EV2.out.1, ← EV2.out.2]
  replace hz := hz.below bV2
  replace h := h.below bV2
  replace ht := ht.below bV2
  replace hA := hA.below bV2 hA.lt
  replace h1 := h1.below bV2
  replace hX := hX.below bV2 hX.lt
  replace h2 := h2.below bV2
  replace hB := hB.trans (bV2.mono hB.size)
  clear c8_hA_0 c8_hA_1 c8_hX_0 c8_hX_1
  obtain ⟨c9_hA_0, c9_hA_1⟩ := hA.cells2
  obtain ⟨c9_hX_0, c9_hX_1⟩ := hX.cells2
  clear c9_hA_0 c9_hA_1 c9_hX_0 c9_hX_1
  obtain ⟨c10_hA_0, c10_hA_1⟩ := hA.cells2
  obtain ⟨c10_hX_0, c10_hX_1⟩ := hX.cells2
  obtain ⟨c10_hY_0, c10_hY_1⟩ := hY.cells2
  go_wp2_with fail
  refine (hE _ ht).mono ?_
  rintro e w6 ⟨rfl, b6⟩
  replace hz := hz.below b6
  replace h := h.below b6
  replace ht := ht.below b6
  replace hA := hA.below b6 hA.lt
  replace h1 := h1.below b6
  replace hX := hX.below b6 hX.lt
  replace h2 := h2.below b6
  replace hY := hY.below b6 hY.lt
  replace hB := hB.trans (b6.mono hB.size)
  clear c10_hA_0 c10_hA_1 c10_hX_0 c10_hX_1 c10_hY_0 c10_hY_1
  obtain ⟨c11_hA_0, c11_hA_1⟩ := hA.cells2
  obtain ⟨c11_hX_0, c11_hX_1⟩ := hX.cells2
  obtain ⟨c11_hY_0, c11_hY_1⟩ := hY.cells2
  go_wp2_with fail
  refine (hS2 _ _ h2).mono ?_
  rintro e w7 ⟨rfl, b7⟩
  replace hz := hz.below b7
  replace h := h.below b7
  replace ht := ht.below b7
  replace hA := hA.below b7 hA.lt
  replace h1 := h1.below b7
  replace hX := hX.below b7 hX.lt
  replace h2 := h2.below b7
  replace hY := hY.below b7 hY.lt
  replace hB := hB.trans (b7.mono hB.size)
  clear c11_hA_0 c11_hA_1 c11_hX_0 c11_hX_1 c11_hY_0 c11_hY_1
  obtain ⟨c12_hA_0, c12_hA_1⟩ := hA.cells2
  obtain ⟨c12_hX_0, c12_hX_1⟩ := hX.cells2
  obtain ⟨c12_hY_0, c12_hY_1⟩ := hY.cells2
  go_wp2_with fail
  go_ret
  exact ⟨rfl, hB⟩
set_option maxRecDepth 100000 in
set_option maxHeartbeats 4000000 in
theorem ZedBack_good (b : Bool) (A : Option Addr) (C : Nat) (ll : List Nat) (l : List UInt8) (w : World) (h : IsL w (.slice A ll.length C) ll) (ht : TabOk w) (hr : rightZ b ll = true) (h10 : ll.length ≤ 10) (hl : l.length ≤ 400) (he : (readT l).2.2 = 0) :
    Calls Tryd.prog 4 #[.agg #[.bool b, .slice A ll.length C], strV l] w fun e w' => e = .returned (.bool true) ∧ Below w.heap.size w w' := by
  have hfw : (decide (ll.length ≤ 10) && rightZ b ll) = true := by rw [decide_eq_true h10, hr]; rfl
  have hF := fun w h => rzfew_any b (.slice A ll.length C) ll 10 w h
  rw [hfw] at hF
  obtain ⟨hz, hzl⟩ := isZ_right h hr
  obtain ⟨z, hze⟩ : ∃ z, z = sided b (num ll) := ⟨_, rfl⟩
  rw [← hze] at hz hzl
  have hd := dec_200 (n := z.natAbs) (by omega)
  have hgt : decide ((400 : Int) < (l.length : Int)) = false := decide_eq_false (by omega)
  have hsz : (⟨l.toArray⟩ : ByteArray).size = l.length := by simp [ByteArray.size]
  have hP := fun w h ht => pzprint_any (.agg #[.bool b, .slice A ll.length C]) z w h (by omega) (Nat.le_trans hd (by decide)) ht
  obtain ⟨bz, hbz⟩ : ∃ bz, decide (z < 0) = bz := ⟨_, rfl⟩
  have hRd := fun w => zread_as (itoa z) z 0 0 bz hbz (read_text z (by have := itoa_len z; omega)) w
  have hS := fun va vb w h1 h2 => rzsame_any va vb z z w h1 h2
  rw [show decide (z = z) = true from decide_eq_true rfl] at hS
  have hE := fun w ht => alive04_any w ht
  obtain ⟨⟨z2, at2, e2⟩, hrd⟩ : ∃ x, x = readT l := ⟨_, rfl⟩
  rw [← hrd] at he
  dsimp only at he
  subst he
  obtain ⟨rfl, hit, _⟩ := text_read hrd.symm
  obtain ⟨sg2, hb2⟩ : ∃ q, decide (z2 < 0) = q := ⟨_, rfl⟩
  have hR2 := fun w => zread_as l z2 0 0 sg2 hb2 hrd.symm w
  have hd2 := dec_le_itoa z2
  rw [hit] at hd2
  have hG := fun v w h => rzright_good v z2 w h
  have hP2 := fun v w h ht => pzprint_any v z2 w h (Nat.le_trans (limbs_dec (Nat.le_trans hd2 hl)) (by decide)) (Nat.le_trans (Nat.le_trans hd2 hl) (by decide)) ht
  rw [hit] at hP2
  clear hrd hit hd2 hb2 hze hzl hd hbz
  obtain ⟨W0, hW, hR, hB⟩ := box1 w 25 #[.bool b, .slice A ll.length C]
  obtain ⟨g, hg⟩ : ∃ g, g = w.heap.size := ⟨_, rfl⟩
  have hW' := Lib.hid (And.intro hW hg)
  rw [← hg] at hR
  have hgw : w.heap.size ≤ g := by omega
  clear hW hg
  have hA := hR
  replace hz := hz.below hB
  replace h := h.below hB
  replace ht := ht.below hB
  obtain ⟨c1_hA_0, c1_hA_1⟩ := hA.cells2
  go_enter Tryd.func4, Tryd.ntmps4
  go_wp2_with fail
  rw [← hW'.out.1, ← hW'.out.2]
  refine (hF _ h).mono ?_
  rintro e w1 ⟨rfl, b1⟩
  replace hz := hz.below b1
  replace h := h.below b1
  replace ht := ht.below b1
  replace hA := hA.below b1 hA.lt
  replace hB := hB.trans (b1.mono hB.size)
  clear c1_hA_0 c1_hA_1
  obtain ⟨c2_hA_0, c2_hA_1⟩ := hA.cells2
  go_wp2_with fail
  refine (hP _ hz ht).mono ?_
  rintro e w2 ⟨rfl, b2⟩
  replace hz := hz.below b2
  replace h := h.below b2
  replace ht := ht.below b2
  replace hA := hA.below b2 hA.lt
  replace hB := hB.trans (b2.mono hB.size)
  clear c2_hA_0 c2_hA_1
  obtain ⟨c3_hA_0, c3_hA_1⟩ := hA.cells2
  go_wp2_with fail
  refine (hRd _).mono ?_
  rintro e w3 ⟨A1, L1, C1, rfl, h1, b3⟩
  replace hz := hz.below b3
  replace h := h.below b3
  replace ht := ht.below b3
  replace hA := hA.below b3 hA.lt
  replace hB := hB.trans (b3.mono hB.size)
  clear c3_hA_0 c3_hA_1
  obtain ⟨c4_hA_0, c4_hA_1⟩ := hA.cells2
  obtain ⟨V1, eV, hX, bV1⟩ := box1 w3 25 #[.bool bz, .slice A1 L1 C1]
  obtain ⟨X1, eX⟩ : ∃ X, X = w3.heap.size := ⟨_, rfl⟩
  rw [← eX] at hX
  have EV1 := Lib.hid (And.intro eV eX)
  clear eV eX
  go_upto_region 4 with fail
  rw [← EV1.out.1, ← EV1.out.2]
  replace hz := hz.below bV1
  replace h := h.below bV1
  replace ht := ht.below bV1
  replace hA := hA.below bV1 hA.lt
  replace h1 := h1.below bV1
  replace hB := hB.trans (bV1.mono hB.size)
  clear c4_hA_0 c4_hA_1
  obtain ⟨c5_hA_0, c5_hA_1⟩ := hA.cells2
  clear c5_hA_0 c5_hA_1
  obtain ⟨c6_hA_0, c6_hA_1⟩ := hA.cells2
  obtain ⟨c6_hX_0, c6_hX_1⟩ := hX.cells2
  go_wp2_with fail
  refine (hS _ _ _ h1 hz).mono ?_
  rintro e w4 ⟨rfl, b4⟩
  replace hz := hz.below b4
  replace h := h.below b4
  replace ht := ht.below b4
  replace hA := hA.below b4 hA.lt
  replace h1 := h1.below b4
  replace hX := hX.below b4 hX.lt
  replace hB := hB.trans (b4.mono hB.size)
  clear c6_hA_0 c6_hA_1 c6_hX_0 c6_hX_1
  obtain ⟨c7_hA_0, c7_hA_1⟩ := hA.cells2
  obtain ⟨c7_hX_0, c7_hX_1⟩ := hX.cells2
  go_wp2_with fail
  refine (hR2 _).mono ?_
  rintro e w5 ⟨A2, L2, C2, rfl, h2, b5⟩
  replace hz := hz.below b5
  replace h := h.below b5
  replace ht := ht.below b5
  replace hA := hA.below b5 hA.lt
  replace h1 := h1.below b5
  replace hX := hX.below b5 hX.lt
  replace hB := hB.trans (b5.mono hB.size)
  clear c7_hA_0 c7_hA_1 c7_hX_0 c7_hX_1
  obtain ⟨c8_hA_0, c8_hA_1⟩ := hA.cells2
  obtain ⟨c8_hX_0, c8_hX_1⟩ := hX.cells2
  obtain ⟨V2, eV, hY, bV2⟩ := box1 w5 25 #[.bool sg2, .slice A2 L2 C2]
  obtain ⟨X2, eX⟩ : ∃ X, X = w5.heap.size := ⟨_, rfl⟩
  rw [← eX] at hY
  have EV2 := Lib.hid (And.intro eV eX)
  clear eV eX
  go_upto_region 7 with fail
  rw [← EV2.out.1, ← EV2.out.2]
  replace hz := hz.below bV2
  replace h := h.below bV2
  replace ht := ht.below bV2
  replace hA := hA.below bV2 hA.lt
  replace h1 := h1.below bV2
  replace hX := hX.below bV2 hX.lt
  replace h2 := h2.below bV2
  replace hB := hB.trans (bV2.mono hB.size)
  clear c8_hA_0 c8_hA_1 c8_hX_0 c8_hX_1
  obtain ⟨c9_hA_0, c9_hA_1⟩ := hA.cells2
  obtain ⟨c9_hX_0, c9_hX_1⟩ := hX.cells2
  clear c9_hA_0 c9_hA_1 c9_hX_0 c9_hX_1
  obtain ⟨c10_hA_0, c10_hA_1⟩ := hA.cells2
  obtain ⟨c10_hX_0, c10_hX_1⟩ := hX.cells2
  obtain ⟨c10_hY_0, c10_hY_1⟩ := hY.cells2
  go_wp2_with fail
  refine (hE _ ht).mono ?_
  rintro e w6 ⟨rfl, b6⟩
  replace hz := hz.below b6
  replace h := h.below b6
  replace ht := ht.below b6
  replace hA := hA.below b6 hA.lt
  replace h1 := h1.below b6
  replace hX := hX.below b6 hX.lt
  replace h2 := h2.below b6
  replace hY := hY.below b6 hY.lt
  replace hB := hB.trans (b6.mono hB.size)
  clear c10_hA_0 c10_hA_1 c10_hX_0 c10_hX_1 c10_hY_0 c10_hY_1
  obtain ⟨c11_hA_0, c11_hA_1⟩ := hA.cells2
  obtain ⟨c11_hX_0, c11_hX_1⟩ := hX.cells2
  obtain ⟨c11_hY_0, c11_hY_1⟩ := hY.cells2
  go_wp2_with fail
  refine (hG _ _ h2).mono ?_
  rintro e w7 ⟨rfl, b7⟩
  replace hz := hz.below b7
  replace h := h.below b7
  replace ht := ht.below b7
  replace hA := hA.below b7 hA.lt
  replace h1 := h1.below b7
  replace hX := hX.below b7 hX.lt
  replace h2 := h2.below b7
  replace hY := hY.below b7 hY.lt
  replace hB := hB.trans (b7.mono hB.size)
  clear c11_hA_0 c11_hA_1 c11_hX_0 c11_hX_1 c11_hY_0 c11_hY_1
  obtain ⟨c12_hA_0, c12_hA_1⟩ := hA.cells2
  obtain ⟨c12_hX_0, c12_hX_1⟩ := hX.cells2
  obtain ⟨c12_hY_0, c12_hY_1⟩ := hY.cells2
  go_wp2_with fail
  refine (hP2 _ _ h2 ht).mono ?_
  rintro e w8 ⟨rfl, b8⟩
  replace hz := hz.below b8
  replace h := h.below b8
  replace ht := ht.below b8
  replace hA := hA.below b8 hA.lt
  replace h1 := h1.below b8
  replace hX := hX.below b8 hX.lt
  replace h2 := h2.below b8
  replace hY := hY.below b8 hY.lt
  replace hB := hB.trans (b8.mono hB.size)
  clear c12_hA_0 c12_hA_1 c12_hX_0 c12_hX_1 c12_hY_0 c12_hY_1
  obtain ⟨c13_hA_0, c13_hA_1⟩ := hA.cells2
  obtain ⟨c13_hX_0, c13_hX_1⟩ := hX.cells2
  obtain ⟨c13_hY_0, c13_hY_1⟩ := hY.cells2
  go_wp2_with fail
  go_ret
  exact ⟨rfl, hB⟩
theorem ZedBack_all (b : Bool) (nv : Value) (ll : List Nat) (l : List UInt8) (w : World) (h : IsL w nv ll) (ht : TabOk w) :
    Calls Tryd.prog 4 #[.agg #[.bool b, nv], strV l] w fun e w' => e = .returned (.bool true) ∧ Below w.heap.size w w' := by
  obtain ⟨A, C, rfl, _⟩ := id h
  cases hfw : (decide (ll.length ≤ 10) && rightZ b ll)
  · exact ZedBack_unfew b A C ll l w h ht hfw
  · by_cases hl : 400 < l.length
    · exact ZedBack_long b A C ll l w h ht hfw hl
    · rw [Bool.and_eq_true, decide_eq_true_eq] at hfw
      by_cases he : (readT l).2.2 = 0
      · exact ZedBack_good b A C ll l w h ht hfw.2 hfw.1 (by omega) he
      · exact ZedBack_bad b A C ll l w h ht hfw.2 hfw.1 (by omega) he
end Go.Proofs.YtooonjcpdbbniaaDoor
