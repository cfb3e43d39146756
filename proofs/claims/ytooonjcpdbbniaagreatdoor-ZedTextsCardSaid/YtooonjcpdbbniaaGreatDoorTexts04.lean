/- ZedTexts: an integer's text, and the integer of any text, or where it is none, are as the document says. No conditions: every input. -/
import Derived.Test.YtooonjcpdbbniaaGreatDoorRPrint04
import Derived.Test.YtooonjcpdbbniaaGreatDoorRRead04
import Derived.Deep.RegionHeld3
namespace Go.Proofs.YtooonjcpdbbniaaGreatDoor
open Go.RowKit Go.Lib Go.Shelf
attribute [local go_sem ↓] Go.wp_at_zero Go.wp_at_succ
set_option maxRecDepth 100000 in
set_option maxHeartbeats 2000000 in
theorem rzread_long (l : List UInt8) (hl : 400 < l.length) (w : World) :
    Calls Tryz.prog 23 #[strV l] w fun e w' => ∃ zv, e = .returned (.tuple #[zv, .int .i64 0, .int .i64 6]) ∧ IsZ w' zv 0 ∧ Below w.heap.size w w' := by
  have hl1 : decide ((400 : Int) < (l.length : Int)) = true := decide_eq_true (by omega)
  have hsz : (⟨l.toArray⟩ : ByteArray).size = l.length := by simp [ByteArray.size]
  go_enter Tryz.func23, Tryz.ntmps23
  go_wp2_with fail
  have hZ3 := Blk.new w 25 #[.bool false, .slice none 0 0]
  have q0 := hZ3.cell 0
  have q1 := hZ3.cell 1
  have hB3 := (Below.refl _ w).alloc (Nat.le_refl _) (.cells #[.bool false, .slice none 0 0] 25)
  exact bodyPost_ret (v := .tuple #[.agg #[.bool false, .slice none 0 0], .int .i64 0, .int .i64 6]) (by simp at q0 q1; simp [results, Tryz.results23, go_sem, q0, q1]) rfl ⟨_, rfl, ⟨_, rfl, IsN.zero _⟩, hB3⟩
set_option maxRecDepth 100000 in
set_option maxHeartbeats 2000000 in
theorem rzread_nil (w : World) :
    Calls Tryz.prog 23 #[strV []] w fun e w' => ∃ zv, e = .returned (.tuple #[zv, .int .i64 0, .int .i64 3]) ∧ IsZ w' zv 0 ∧ Below w.heap.size w w' := by
  have hsz : (⟨([] : List UInt8).toArray⟩ : ByteArray).size = 0 := rfl
  have hsz2 : (⟨#[]⟩ : ByteArray).size = 0 := rfl
  go_enter Tryz.func23, Tryz.ntmps23
  go_wp2_with fail
  have hZ0 := (Blk.new w 25 #[.bool false, .slice none 0 0]).alloc (.cells #[] 44)
  have hB0 := ((Below.refl _ w).alloc (Nat.le_refl _) (.cells #[.bool false, .slice none 0 0] 25)).alloc (by simp) (.cells #[] 44)
  go_loopw [7] (fun iV wr => iV = .int .i64 0 ∧ Blk wr w.heap.size 25 #[.bool false, .slice none 0 0] ∧ Below w.heap.size w wr) (fun _ _ => 0)
  case atStart => exact ⟨rfl, hZ0, hB0⟩
  case round =>
    obtain ⟨rfl, hZ, hBel⟩ := hrel
    clear hZ0 hB0
    have k0 := hZ.cell 0
    have k1 := hZ.cell 1
    have kf := hZ.frozen
    go_wp2_with fail
    have hZ3 := (hZ.set_ 0 (.bool false)).set_ 1 (.slice none 0 0)
    have q0 := hZ3.cell 0
    have q1 := hZ3.cell 1
    have hB3 := bset (bset hBel (X := w.heap.size) (i := 0) (Nat.le_refl _) (.bool false)) (X := w.heap.size) (i := 1) (Nat.le_refl _) (.slice none 0 0)
    exact bodyPost_ret (v := .tuple #[.agg #[.bool false, .slice none 0 0], .int .i64 0, .int .i64 3]) (by simp at q0 q1; simp [results, Tryz.results23, go_sem, q0, q1]) rfl ⟨_, rfl, ⟨_, rfl, IsN.zero _⟩, hB3⟩
theorem c45 {c : UInt8} (h : (((c.toNat : Nat) : Int) == 45) = true) : c = 45 := UInt8.toNat_inj.1 (by have := beq_iff_eq.1 h; show c.toNat = 45; omega)
theorem rzread_any (l : List UInt8) (w : World) :
    Calls Tryz.prog 23 #[strV l] w fun e w' => ∃ zv, e = .returned (.tuple #[zv, .int .i64 (readT l).2.1, .int .i64 (readT l).2.2]) ∧ IsZ w' zv (readT l).1 ∧ Below w.heap.size w w' := by
  unfold readT
  by_cases hl : 400 < l.length
  · rw [if_pos hl]; exact rzread_long l hl w
  · rw [if_neg hl]
    cases l with
    | nil => exact rzread_nil w
    | cons x r =>
      by_cases h45 : x = 45
      · subst h45
        rw [List.head?_cons, if_pos rfl]
        exact rzread_neg (45 :: r) r (by omega) rfl (by simp) rfl w
      · rw [List.head?_cons, if_neg (fun e => h45 (Option.some.inj e))]
        refine rzread_pos (x :: r) (x :: r) (by omega) rfl (by simp) ?_ w
        cases hb : (((x.toNat : Nat) : Int) == 45)
        · exact hb
        · exact absurd (c45 hb) h45
theorem rzread_as (l : List UInt8) (z a e0 : Int) (b : Bool) (hb : decide (z < 0) = b) (h : readT l = (z, a, e0)) (w : World) :
    Calls Tryz.prog 23 #[strV l] w fun e w' => ∃ A L C, e = .returned (.tuple #[.agg #[.bool b, .slice A L C], .int .i64 a, .int .i64 e0]) ∧ IsZ w' (.agg #[.bool b, .slice A L C]) z ∧ Below w.heap.size w w' := by
  refine (rzread_any l w).mono ?_
  rintro e w' ⟨zv, rfl, h1, h2⟩
  rw [h] at h1 ⊢
  obtain ⟨A, L, C, rfl, _⟩ := h1.frm
  subst hb
  exact ⟨A, L, C, rfl, h1, h2⟩
set_option maxRecDepth 100000 in
set_option maxHeartbeats 4000000 in
theorem ZedTexts_unfew (b : Bool) (A : Option Addr) (C : Nat) (ll : List Nat) (l : List UInt8) (w : World) (h : IsL w (.slice A ll.length C) ll) (ht : TabOk w) (hfw : (decide (ll.length ≤ 10) && rightZ b ll) = false) :
    Calls Tryz.prog 4 #[.agg #[.bool b, .slice A ll.length C], strV l] w fun e w' => e = .returned (.bool true) ∧ Below w.heap.size w w' := by
  have hF := fun w h => rzfew_any b (.slice A ll.length C) ll 10 w h
  have hE := fun w ht => alive04_any w ht
  have hsz : (⟨l.toArray⟩ : ByteArray).size = l.length := by simp [ByteArray.size]
  rw [hfw] at hF
  obtain ⟨W0, hW, hR, hB⟩ := box1 w 25 #[.bool b, .slice A ll.length C]
  obtain ⟨g, hg⟩ : ∃ g, g = w.heap.size := ⟨_, rfl⟩
  have hW' := Lib.hid (And.intro hW hg)
  rw [← hg] at hR
  have hgw : w.heap.size ≤ g := by omega
  clear hW hg
  have hA := hR
  replace h := h.below hB
  obtain ⟨c1_hA_0, c1_hA_1⟩ := hA.cells2
  go_enter Tryz.func4, Tryz.ntmps4
  go_wp2_with fail
  rw [← hW'.out.1, ← hW'.out.2]
  refine (hF _ h).mono ?_
  rintro e w1 ⟨rfl, b1⟩
  replace h := h.below b1
  replace hA := hA.below b1 hA.lt
  replace hB := hB.trans (b1.mono hB.size)
  clear c1_hA_0 c1_hA_1
  obtain ⟨c2_hA_0, c2_hA_1⟩ := hA.cells2
  go_wp2_with fail
  refine (hE _ (ht.below hB)).mono ?_
  rintro e w2 ⟨rfl, b2⟩
  replace h := h.below b2
  replace hA := hA.below b2 hA.lt
  replace hB := hB.trans (b2.mono hB.size)
  clear c2_hA_0 c2_hA_1
  obtain ⟨c3_hA_0, c3_hA_1⟩ := hA.cells2
  go_wp2_with fail
  go_ret
  exact ⟨rfl, hB⟩
set_option maxRecDepth 100000 in
set_option maxHeartbeats 4000000 in
theorem ZedTexts_long (b : Bool) (A : Option Addr) (C : Nat) (ll : List Nat) (l : List UInt8) (w : World) (h : IsL w (.slice A ll.length C) ll) (ht : TabOk w) (hfw : (decide (ll.length ≤ 10) && rightZ b ll) = true) (hl : 500 < l.length) :
    Calls Tryz.prog 4 #[.agg #[.bool b, .slice A ll.length C], strV l] w fun e w' => e = .returned (.bool true) ∧ Below w.heap.size w w' := by
  have hF := fun w h => rzfew_any b (.slice A ll.length C) ll 10 w h
  have hE := fun w ht => alive04_any w ht
  have hsz : (⟨l.toArray⟩ : ByteArray).size = l.length := by simp [ByteArray.size]
  have hgt : decide ((500 : Int) < (l.length : Int)) = true := decide_eq_true (by omega)
  rw [hfw] at hF
  obtain ⟨W0, hW, hR, hB⟩ := box1 w 25 #[.bool b, .slice A ll.length C]
  obtain ⟨g, hg⟩ : ∃ g, g = w.heap.size := ⟨_, rfl⟩
  have hW' := Lib.hid (And.intro hW hg)
  rw [← hg] at hR
  have hgw : w.heap.size ≤ g := by omega
  clear hW hg
  have hA := hR
  replace h := h.below hB
  obtain ⟨c1_hA_0, c1_hA_1⟩ := hA.cells2
  go_enter Tryz.func4, Tryz.ntmps4
  go_wp2_with fail
  rw [← hW'.out.1, ← hW'.out.2]
  refine (hF _ h).mono ?_
  rintro e w1 ⟨rfl, b1⟩
  replace h := h.below b1
  replace hA := hA.below b1 hA.lt
  replace hB := hB.trans (b1.mono hB.size)
  clear c1_hA_0 c1_hA_1
  obtain ⟨c2_hA_0, c2_hA_1⟩ := hA.cells2
  go_wp2_with fail
  refine (hE _ (ht.below hB)).mono ?_
  rintro e w2 ⟨rfl, b2⟩
  replace h := h.below b2
  replace hA := hA.below b2 hA.lt
  replace hB := hB.trans (b2.mono hB.size)
  clear c2_hA_0 c2_hA_1
  obtain ⟨c3_hA_0, c3_hA_1⟩ := hA.cells2
  go_wp2_with fail
  go_ret
  exact ⟨rfl, hB⟩
set_option maxRecDepth 100000 in
set_option maxHeartbeats 4000000 in
theorem ZedTexts_main (b : Bool) (A : Option Addr) (C : Nat) (ll : List Nat) (l : List UInt8) (w : World) (h : IsL w (.slice A ll.length C) ll) (ht : TabOk w) (hr : rightZ b ll = true) (h10 : ll.length ≤ 10) (hl : l.length ≤ 500) :
    Calls Tryz.prog 4 #[.agg #[.bool b, .slice A ll.length C], strV l] w fun e w' => e = .returned (.bool true) ∧ Below w.heap.size w w' := by
  have hF := fun w h => rzfew_any b (.slice A ll.length C) ll 10 w h
  have hE := fun w ht => alive04_any w ht
  have hsz : (⟨l.toArray⟩ : ByteArray).size = l.length := by simp [ByteArray.size]
  have hfw : (decide (ll.length ≤ 10) && rightZ b ll) = true := by rw [decide_eq_true h10, hr]; rfl
  rw [hfw] at hF
  obtain ⟨hz, hzl⟩ := isZ_right h hr
  obtain ⟨z, hze⟩ : ∃ z, z = sided b (num ll) := ⟨_, rfl⟩
  rw [← hze] at hz hzl
  have hd := dec_200 (n := z.natAbs) (by omega)
  have hgt : decide ((500 : Int) < (l.length : Int)) = false := decide_eq_false (by omega)
  have hP := fun w h ht => pzprint_any (.agg #[.bool b, .slice A ll.length C]) z w h (by omega) (Nat.le_trans hd (by decide)) ht
  have hP2 := fun w h => rzprint_any (.agg #[.bool b, .slice A ll.length C]) z w h (by omega) (Nat.le_trans hd (by decide))
  generalize itoa z = LT at hP hP2
  obtain ⟨⟨z2, at2, e2⟩, hrd⟩ : ∃ x, x = readT l := ⟨_, rfl⟩
  obtain ⟨sg2, hsg⟩ : ∃ q, decide (z2 < 0) = q := ⟨_, rfl⟩
  have hRd := fun w => zread_as l z2 at2 e2 sg2 hsg hrd.symm w
  have hRd2 := fun w => rzread_as l z2 at2 e2 sg2 hsg hrd.symm w
  have hS := fun va vb w h1 h2 => rzsame_any va vb z2 z2 w h1 h2
  rw [show decide (z2 = z2) = true from decide_eq_true rfl] at hS
  clear hrd hsg hze hzl hd hfw
  obtain ⟨W0, hW, hR, hB⟩ := box1 w 25 #[.bool b, .slice A ll.length C]
  obtain ⟨g, hg⟩ : ∃ g, g = w.heap.size := ⟨_, rfl⟩
  have hW' := Lib.hid (And.intro hW hg)
  rw [← hg] at hR
  have hgw : w.heap.size ≤ g := by omega
  clear hW hg
  have hA := hR
  replace h := h.below hB
  obtain ⟨c1_hA_0, c1_hA_1⟩ := hA.cells2
  go_enter Tryz.func4, Tryz.ntmps4
  go_wp2_with fail
  rw [← hW'.out.1, ← hW'.out.2]
  refine (hF _ h).mono ?_
  rintro e w1 ⟨rfl, b1⟩
  replace h := h.below b1
  replace hA := hA.below b1 hA.lt
  replace hB := hB.trans (b1.mono hB.size)
  clear c1_hA_0 c1_hA_1
  obtain ⟨c2_hA_0, c2_hA_1⟩ := hA.cells2
  go_wp2_with fail
  refine (hRd _).mono ?_
  rintro e w2 ⟨A1, L1, C1, rfl, r1, b2⟩
  replace h := h.below b2
  replace hA := hA.below b2 hA.lt
  replace hB := hB.trans (b2.mono hB.size)
  clear c2_hA_0 c2_hA_1
  obtain ⟨c3_hA_0, c3_hA_1⟩ := hA.cells2
  obtain ⟨V1, eV, hX, bV1⟩ := box1 w2 25 #[.bool sg2, .slice A1 L1 C1]
  obtain ⟨X1, eX⟩ : ∃ X, X = w2.heap.size := ⟨_, rfl⟩
  rw [← eX] at hX
  have EV1 := Lib.hid (And.intro eV eX)
  clear eV eX
  go_upto_region 4 with fail
  rw [← EV1.out.1, ← EV1.out.2]
  replace h := h.below bV1
  replace hA := hA.below bV1 hA.lt
  replace r1 := r1.below bV1
  replace hB := hB.trans (bV1.mono hB.size)
  clear c3_hA_0 c3_hA_1
  obtain ⟨c4_hA_0, c4_hA_1⟩ := hA.cells2
  clear c4_hA_0 c4_hA_1
  obtain ⟨c5_hA_0, c5_hA_1⟩ := hA.cells2
  obtain ⟨c5_hX_0, c5_hX_1⟩ := hX.cells2
  go_wp2_with fail
  refine (hRd2 _).mono ?_
  rintro e w3 ⟨A2, L2, C2, rfl, r2, b3⟩
  replace h := h.below b3
  replace hA := hA.below b3 hA.lt
  replace r1 := r1.below b3
  replace hX := hX.below b3 hX.lt
  replace hB := hB.trans (b3.mono hB.size)
  clear c5_hA_0 c5_hA_1 c5_hX_0 c5_hX_1
  obtain ⟨c6_hA_0, c6_hA_1⟩ := hA.cells2
  obtain ⟨c6_hX_0, c6_hX_1⟩ := hX.cells2
  obtain ⟨V2, eV, hY, bV2⟩ := box1 w3 25 #[.bool sg2, .slice A2 L2 C2]
  obtain ⟨X2, eX⟩ : ∃ X, X = w3.heap.size := ⟨_, rfl⟩
  rw [← eX] at hY
  have EV2 := Lib.hid (And.intro eV eX)
  clear eV eX
  go_upto_region 5 with fail
  rw [← EV2.out.1, ← EV2.out.2]
  replace h := h.below bV2
  replace hA := hA.below bV2 hA.lt
  replace r1 := r1.below bV2
  replace hX := hX.below bV2 hX.lt
  replace r2 := r2.below bV2
  replace hB := hB.trans (bV2.mono hB.size)
  clear c6_hA_0 c6_hA_1 c6_hX_0 c6_hX_1
  obtain ⟨c7_hA_0, c7_hA_1⟩ := hA.cells2
  obtain ⟨c7_hX_0, c7_hX_1⟩ := hX.cells2
  clear c7_hA_0 c7_hA_1 c7_hX_0 c7_hX_1
  obtain ⟨c8_hA_0, c8_hA_1⟩ := hA.cells2
  obtain ⟨c8_hX_0, c8_hX_1⟩ := hX.cells2
  obtain ⟨c8_hY_0, c8_hY_1⟩ := hY.cells2
  clear c8_hA_0 c8_hA_1 c8_hX_0 c8_hX_1 c8_hY_0 c8_hY_1
  replace hB := hB.drew
  replace r1 := r1.below (bdrew _)
  replace r2 := r2.below (bdrew _)
  replace hA := hA.drew
  replace hX := hX.drew
  replace hY := hY.drew
  refine wp_region_noPanic ?_
  refine wp_region_held_drew (S := fun w' => w'.cell? ⟨g, 0, none⟩ = some (.bool b) ∧ w'.cell? ⟨g, 1, none⟩ = some (.slice A ll.length C) ∧ w'.cell? ⟨X1, 0, none⟩ = some (.bool sg2) ∧ w'.cell? ⟨X1, 1, none⟩ = some (.slice A1 L1 C1) ∧ w'.cell? ⟨X2, 0, none⟩ = some (.bool sg2) ∧ w'.cell? ⟨X2, 1, none⟩ = some (.slice A2 L2 C2)) (by kernel_rfl) ?_ (fun hHeld => ?_)
  · exact ⟨hA.cell 0, hA.cell 1, hX.cell 0, hX.cell 1, hY.cell 0, hY.cell 1⟩
  refine wpAnyH_ready (rs := [0]) (by kernel_rfl) (by simp) ?_
  refine AllReadyH.cons rfl (fun K hK => ?_) AllReadyH.nil
  go_simp
  refine (hE _ (ht.below hB)).mono ?_
  rintro e w201 ⟨rfl, b201⟩
  replace hB := hB.trans (b201.mono hB.size)
  replace r1 := r1.below b201
  replace r2 := r2.below b201
  replace hA := hA.below b201 hA.lt
  replace hX := hX.below b201 hX.lt
  replace hY := hY.below b201 hY.lt
  go_wp2_with fail
  refine hK.out _ _ ?_ (fun hHeld => ?_)
  · exact ⟨hA.cell 0, hA.cell 1, hX.cell 0, hX.cell 1, hY.cell 0, hY.cell 1⟩
  clear hK K
  try simp only [Act.put, lay1, lay2, lay3, lay4, lay5, lay6]
  refine wpAnyH_take (i := 1) (v := ?rtv1) rfl (by kernel_rfl) (by kernel_rfl) (by kernel_rfl) (fun _ _ _ h => h) (Or.inl ⟨by kernel_rfl, ?rthy1⟩) (by assumption) ?rtrest1
  case rthy1 => (intro w hSw; (try dsimp only at hSw); go_simp; try (with_reducible rfl))
  try simp only [Act.put, lay1, lay2, lay3, lay4, lay5, lay6]
  refine wpAnyH_take (i := 2) (v := ?rtv2) rfl (by kernel_rfl) (by kernel_rfl) (by kernel_rfl) (fun _ _ _ h => h) (Or.inl ⟨by kernel_rfl, ?rthy2⟩) (by assumption) ?rtrest2
  case rthy2 => (intro w hSw; (try dsimp only at hSw); go_simp; try (with_reducible rfl))
  try simp only [Act.put, lay1, lay2, lay3, lay4, lay5, lay6]
  refine wpAnyH_take (i := 4) (v := ?rtv4) rfl (by kernel_rfl) (by kernel_rfl) (by kernel_rfl) (fun _ _ _ h => h) (Or.inl ⟨by kernel_rfl, ?rthy4⟩) (by assumption) ?rtrest4
  case rthy4 => (intro w hSw; (try dsimp only at hSw); go_simp; try (with_reducible rfl))
  try simp only [Act.put, lay1, lay2, lay3, lay4, lay5, lay6]
  refine wpAnyH_ready (rs := [3]) (by kernel_rfl) (by simp) ?_
  refine AllReadyH.cons rfl (fun K hK => ?_) AllReadyH.nil
  go_simp
  refine (hP _ (hz.below hB) (ht.below hB)).mono ?_
  rintro e w202 ⟨rfl, b202⟩
  replace hB := hB.trans (b202.mono hB.size)
  replace r1 := r1.below b202
  replace r2 := r2.below b202
  replace hA := hA.below b202 hA.lt
  replace hX := hX.below b202 hX.lt
  replace hY := hY.below b202 hY.lt
  go_wp2_with fail
  refine hK.out _ _ ?_ (fun hHeld => ?_)
  · exact ⟨hA.cell 0, hA.cell 1, hX.cell 0, hX.cell 1, hY.cell 0, hY.cell 1⟩
  clear hK K
  try simp only [Act.put, lay1, lay2, lay3, lay4, lay5, lay6]
  refine wpAnyH_ready (rs := [5]) (by kernel_rfl) (by simp) ?_
  refine AllReadyH.cons rfl (fun K hK => ?_) AllReadyH.nil
  go_simp
  refine (hP2 _ (hz.below hB)).mono ?_
  rintro e w203 ⟨rfl, b203⟩
  replace hB := hB.trans (b203.mono hB.size)
  replace r1 := r1.below b203
  replace r2 := r2.below b203
  replace hA := hA.below b203 hA.lt
  replace hX := hX.below b203 hX.lt
  replace hY := hY.below b203 hY.lt
  go_wp2_with fail
  refine hK.out _ _ ?_ (fun hHeld => ?_)
  · exact ⟨hA.cell 0, hA.cell 1, hX.cell 0, hX.cell 1, hY.cell 0, hY.cell 1⟩
  clear hK K
  try simp only [Act.put, lay1, lay2, lay3, lay4, lay5, lay6]
  refine wpAnyH_take (i := 6) (v := ?rtv6) rfl (by kernel_rfl) (by kernel_rfl) (by kernel_rfl) (fun _ _ _ h => h) (Or.inl ⟨by kernel_rfl, ?rthy6⟩) (by assumption) ?rtrest6
  case rthy6 => (intro w hSw; (try dsimp only at hSw); go_simp; try (with_reducible rfl))
  try simp only [Act.put, lay1, lay2, lay3, lay4, lay5, lay6]
  refine wpAnyH_take (i := 7) (v := ?rtv7) rfl (by kernel_rfl) (by kernel_rfl) (by kernel_rfl) (fun _ _ _ h => h) (Or.inl ⟨by kernel_rfl, ?rthy7⟩) (by assumption) ?rtrest7
  case rthy7 => (intro w hSw; (try dsimp only at hSw); go_simp; try (with_reducible rfl))
  try simp only [Act.put, lay1, lay2, lay3, lay4, lay5, lay6]
  refine wpAnyH_take (i := 8) (v := ?rtv8) rfl (by kernel_rfl) (by kernel_rfl) (by kernel_rfl) (fun _ _ _ h => h) (Or.inl ⟨by kernel_rfl, ?rthy8⟩) (by assumption) ?rtrest8
  case rthy8 => (intro w hSw; (try dsimp only at hSw); go_simp; try (with_reducible rfl))
  try simp only [Act.put, lay1, lay2, lay3, lay4, lay5, lay6]
  refine wpAnyH_take (i := 9) (v := ?rtv9) rfl (by kernel_rfl) (by kernel_rfl) (by kernel_rfl) (fun _ _ _ h => h) (Or.inl ⟨by kernel_rfl, ?rthy9⟩) (by assumption) ?rtrest9
  case rthy9 => (intro w hSw; (try dsimp only at hSw); go_simp; try (with_reducible rfl))
  try simp only [Act.put, lay1, lay2, lay3, lay4, lay5, lay6]
  refine wpAnyH_take (i := 10) (v := ?rtv10) rfl (by kernel_rfl) (by kernel_rfl) (by kernel_rfl) (fun _ _ _ h => h) (Or.inl ⟨by kernel_rfl, ?rthy10⟩) (by assumption) ?rtrest10
  case rthy10 => (intro w hSw; (try dsimp only at hSw); go_simp; try (with_reducible rfl))
  try simp only [Act.put, lay1, lay2, lay3, lay4, lay5, lay6]
  refine wpAnyH_ready (rs := [11]) (by kernel_rfl) (by simp) ?_
  refine AllReadyH.cons rfl (fun K hK => ?_) AllReadyH.nil
  go_simp
  refine (hS _ _ _ r1 r2).mono ?_
  rintro e w204 ⟨rfl, b204⟩
  replace hB := hB.trans (b204.mono hB.size)
  replace r1 := r1.below b204
  replace r2 := r2.below b204
  replace hA := hA.below b204 hA.lt
  replace hX := hX.below b204 hX.lt
  replace hY := hY.below b204 hY.lt
  go_wp2_with fail
  refine hK.out _ _ ?_ (fun hHeld => ?_)
  · exact ⟨hA.cell 0, hA.cell 1, hX.cell 0, hX.cell 1, hY.cell 0, hY.cell 1⟩
  clear hK K
  try simp only [Act.put, lay1, lay2, lay3, lay4, lay5, lay6]
  refine wpAnyH_take (i := 12) (v := ?rtv12) rfl (by kernel_rfl) (by kernel_rfl) (by kernel_rfl) (fun _ _ _ h => h) (Or.inl ⟨by kernel_rfl, ?rthy12⟩) (by assumption) ?rtrest12
  case rthy12 => (intro w hSw; (try dsimp only at hSw); go_simp; try (with_reducible rfl))
  try simp only [Act.put, lay1, lay2, lay3, lay4, lay5, lay6]
  refine wpAnyH_take (i := 13) (v := ?rtv13) rfl (by kernel_rfl) (by kernel_rfl) (by kernel_rfl) (fun _ _ _ h => h) (Or.inl ⟨by kernel_rfl, ?rthy13⟩) (by assumption) ?rtrest13
  case rthy13 => (intro w hSw; (try dsimp only at hSw); go_simp; try (with_reducible rfl))
  try simp only [Act.put, lay1, lay2, lay3, lay4, lay5, lay6]
  refine wpAnyH_take (i := 14) (v := ?rtv14) rfl (by kernel_rfl) (by kernel_rfl) (by kernel_rfl) (fun _ _ _ h => h) (Or.inl ⟨by kernel_rfl, ?rthy14⟩) (by assumption) ?rtrest14
  case rthy14 => (intro w hSw; (try dsimp only at hSw); go_simp; try (with_reducible rfl))
  try simp only [Act.put, lay1, lay2, lay3, lay4, lay5, lay6]
  refine wpAnyH_take (i := 15) (v := ?rtv15) rfl (by kernel_rfl) (by kernel_rfl) (by kernel_rfl) (fun _ _ _ h => h) (Or.inl ⟨by kernel_rfl, ?rthy15⟩) (by assumption) ?rtrest15
  case rthy15 => (intro w hSw; (try dsimp only at hSw); go_simp; try (with_reducible rfl))
  try simp only [Act.put, lay1, lay2, lay3, lay4, lay5, lay6]
  refine wpAnyH_take (i := 16) (v := ?rtv16) rfl (by kernel_rfl) (by kernel_rfl) (by kernel_rfl) (fun _ _ _ h => h) (Or.inl ⟨by kernel_rfl, ?rthy16⟩) (by assumption) ?rtrest16
  case rthy16 => (intro w hSw; (try dsimp only at hSw); go_simp; try (with_reducible rfl))
  try simp only [Act.put, lay1, lay2, lay3, lay4, lay5, lay6]
  refine wpAnyH_take (i := 17) (v := ?rtv17) rfl (by kernel_rfl) (by kernel_rfl) (by kernel_rfl) (fun _ _ _ h => h) (Or.inl ⟨by kernel_rfl, ?rthy17⟩) (by assumption) ?rtrest17
  case rthy17 => (intro w hSw; (try dsimp only at hSw); go_simp; try (with_reducible rfl))
  try simp only [Act.put, lay1, lay2, lay3, lay4, lay5, lay6]
  refine wpAnyH_take (i := 18) (v := ?rtv18) rfl (by kernel_rfl) (by kernel_rfl) (by kernel_rfl) (fun _ _ _ h => h) (Or.inl ⟨by kernel_rfl, ?rthy18⟩) (by assumption) ?rtrest18
  case rthy18 => (intro w hSw; (try dsimp only at hSw); go_simp; try (with_reducible rfl))
  try simp only [Act.put, lay1, lay2, lay3, lay4, lay5, lay6]
  refine wpAnyH_take (i := 19) (v := ?rtv19) rfl (by kernel_rfl) (by kernel_rfl) (by kernel_rfl) (fun _ _ _ h => h) (Or.inl ⟨by kernel_rfl, ?rthy19⟩) (by assumption) ?rtrest19
  case rthy19 => (intro w hSw; (try dsimp only at hSw); go_simp; try (with_reducible rfl))
  try simp only [Act.put, lay1, lay2, lay3, lay4, lay5, lay6]
  refine wpAnyH_take (i := 20) (v := ?rtv20) rfl (by kernel_rfl) (by kernel_rfl) (by kernel_rfl) (fun _ _ _ h => h) (Or.inl ⟨by kernel_rfl, ?rthy20⟩) (by assumption) ?rtrest20
  case rthy20 => (intro w hSw; (try dsimp only at hSw); go_simp; try (with_reducible rfl))
  try simp only [Act.put, lay1, lay2, lay3, lay4, lay5, lay6]
  refine wpAnyH_take (i := 21) (v := ?rtv21) rfl (by kernel_rfl) (by kernel_rfl) (by kernel_rfl) (fun _ _ _ h => h) (Or.inl ⟨by kernel_rfl, ?rthy21⟩) (by assumption) ?rtrest21
  case rthy21 => (intro w hSw; (try dsimp only at hSw); go_simp; try (with_reducible rfl))
  try simp only [Act.put, lay1, lay2, lay3, lay4, lay5, lay6]
  try dsimp only
  try simp only [Act.put, lay1, lay2, lay3, lay4, lay5, lay6]
  refine wpAnyH_take (i := 22) (v := ?rtv22) rfl (by kernel_rfl) (by kernel_rfl) (by kernel_rfl) (fun _ _ _ h => h) (Or.inl ⟨by kernel_rfl, ?rthy22⟩) (by assumption) ?rtrest22
  case rthy22 => (intro w hSw; (try dsimp only at hSw); go_simp; try (with_reducible rfl))
  try simp only [Act.put, lay1, lay2, lay3, lay4, lay5, lay6]
  try dsimp only
  try simp only [Act.put, lay1, lay2, lay3, lay4, lay5, lay6]
  refine wpAnyH_take (i := 23) (v := ?rtv23) rfl (by kernel_rfl) (by kernel_rfl) (by kernel_rfl) (fun _ _ _ h => h) (Or.inl ⟨by kernel_rfl, ?rthy23⟩) (by assumption) ?rtrest23
  case rthy23 => (intro w hSw; (try dsimp only at hSw); go_simp; try (with_reducible rfl))
  try simp only [Act.put, lay1, lay2, lay3, lay4, lay5, lay6]
  try dsimp only
  try simp only [Act.put, lay1, lay2, lay3, lay4, lay5, lay6]
  refine wpAnyH_done (by kernel_rfl) ?_ _
  refine NoPanic.normal ?_
  go_wp2
  go_ret
  exact ⟨rfl, hB⟩
theorem ZedTexts_all (b : Bool) (nv : Value) (ll : List Nat) (l : List UInt8) (w : World) (h : IsL w nv ll) (ht : TabOk w) :
    Calls Tryz.prog 4 #[.agg #[.bool b, nv], strV l] w fun e w' => e = .returned (.bool true) ∧ Below w.heap.size w w' := by
  obtain ⟨A, C, rfl, _⟩ := id h
  cases hfw : (decide (ll.length ≤ 10) && rightZ b ll)
  · exact ZedTexts_unfew b A C ll l w h ht hfw
  · by_cases hl : 500 < l.length
    · exact ZedTexts_long b A C ll l w h ht hfw hl
    · rw [Bool.and_eq_true, decide_eq_true_eq] at hfw
      exact ZedTexts_main b A C ll l w h ht hfw.2 hfw.1 (by omega)
end Go.Proofs.YtooonjcpdbbniaaGreatDoor
