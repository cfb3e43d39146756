/- ratchetref04.Read: the integer that a text is, by definition. -/
import Derived.Test.YtooonjcpdbbniaaGreatDoorAid04
namespace Go.Proofs.YtooonjcpdbbniaaGreatDoor
open Go.RowKit Go.Lib Go.Shelf
attribute [local go_sem ↓] Go.wp_at_zero Go.wp_at_succ
theorem str_at (l D : List UInt8) (f k : Nat) (h : l.drop f = D) (hk : f + k < (⟨l.toArray⟩ : ByteArray).size) : (⟨l.toArray⟩ : ByteArray)[f + k]'hk = D.getD k 0 := by
  subst h
  have : f + k < l.length := by simpa [ByteArray.size] using hk
  simp [List.getD_eq_getElem?_getD, this]
  rfl
theorem fig_of {neg : Bool} {D : List UInt8} {i : Nat} (h : badAt neg D i = false) : figB (D.getD i 0) = true := by
  unfold badAt at h
  rw [Bool.or_eq_false_iff, Bool.or_eq_false_iff] at h
  simpa using h.1.1
theorem take_figs {neg : Bool} {D : List UInt8} {pos : Nat} (hp : pos ≤ D.length) (h : ∀ i, i < pos → badAt neg D i = false) : ∀ c ∈ D.take pos, figB c = true := by
  intro c hc
  obtain ⟨i, hi, rfl⟩ := List.mem_iff_getElem.1 hc
  have hi' : i < pos := by have := hi; rw [List.length_take] at this; omega
  have := fig_of (h i hi')
  rw [List.getD_eq_getElem?_getD, List.getElem?_eq_getElem (by omega)] at this
  simpa using this
theorem val_limbs {neg : Bool} {D : List UInt8} {pos : Nat} (hp : pos ≤ D.length) (hl : D.length ≤ 400) (h : ∀ i, i < pos → badAt neg D i = false) : (limbs (valT (D.take pos))).length ≤ 400 := by
  have h1 := valT_lt _ (take_figs hp h)
  have h2 : (D.take pos).length ≤ 400 := by rw [List.length_take]; omega
  revert h2
  generalize 400 = k
  intro h2
  refine limbs_len_le (Nat.lt_of_lt_of_le h1 ?_)
  exact Nat.le_trans (Nat.pow_le_pow_right (by decide) h2) (Nat.pow_le_pow_left (by decide) k)
theorem val_next {D : List UInt8} {pos : Nat} (hp : pos < D.length) : valT (D.take (pos + 1)) = valT (D.take pos) * 10 + ((D.getD pos 0).toNat - 48) := by
  rw [List.take_add_one, List.getElem?_eq_getElem hp, Option.toList_some, valT_snoc, List.getD_eq_getElem?_getD, List.getElem?_eq_getElem hp]; rfl
set_option maxRecDepth 100000 in
set_option maxHeartbeats 4000000 in
theorem rzread_neg (l D : List UInt8) (hl : l.length ≤ 400) (hD : l.drop 1 = D) (hne : 0 < l.length) (hc9 : (((l.getD 0 0).toNat : Int) == 45) = true) (w : World) :
    Calls Tryz.prog 23 #[strV l] w fun e w' => ∃ zv, e = .returned (.tuple #[zv, .int .i64 (readD true D).2.1, .int .i64 (readD true D).2.2]) ∧ IsZ w' zv (readD true D).1 ∧ Below w.heap.size w w' := by
  have hl1 : decide ((400 : Int) < (l.length : Int)) = false := decide_eq_false (by omega)
  have hl0 : decide ((0 : Int) < (l.length : Int)) = true := decide_eq_true (by omega)
  have hli : (0 : Int) < (l.length : Int) := by omega
  have hsz : (⟨l.toArray⟩ : ByteArray).size = l.length := by simp [ByteArray.size]
  obtain ⟨c9, hc9'⟩ : ∃ c, c = l.getD 0 0 := ⟨_, rfl⟩
  rw [← hc9'] at hc9
  have hg9 : ∀ hk, (⟨l.toArray⟩ : ByteArray)[0]'hk = c9 := fun hk => by rw [hc9']; exact str_at l l 0 0 rfl (by simpa using hk)
  have hDl : D.length = l.length - 1 := by rw [← hD, List.length_drop]
  have HDL := Lib.hid hDl
  have HD := Lib.hid hD
  have HC9 := Lib.hid hc9'
  clear hD hDl hc9'
  go_enter Tryz.func23, Tryz.ntmps23
  go_wp2_with fail
  clear hg9 hc9 hl1 hl0 hli
  have hZ0 := (Blk.new w 25 #[.bool false, .slice none 0 0]).alloc (.cells #[] 44)
  have hB0 := ((Below.refl _ w).alloc (Nat.le_refl _) (.cells #[.bool false, .slice none 0 0] 25)).alloc (by simp) (.cells #[] 44)
  have hE0 : IsN ((w.alloc (.cells #[.bool false, .slice none 0 0] 25)).alloc (.cells #[] 44)) (.slice (some ⟨w.heap.size + 1, 0, none⟩) 0 0) (valT (D.take 0)) := by
    show IsL _ _ (limbs 0)
    rw [limbs_zero]
    exact ⟨_, _, rfl, Nat.le_refl _, by decide, Bd.nil, rfl, fun h => absurd h (by simp)⟩
  go_loopw [6, 7] (fun nV iV wr => ∃ pos : Nat, pos ≤ D.length ∧ iV = .int .i64 ((1 + pos : Nat) : Int) ∧ (∀ i, i < pos → badAt true D i = false) ∧ IsN wr nV (valT (D.take pos)) ∧ Blk wr w.heap.size 25 #[.bool false, .slice none 0 0] ∧ Below w.heap.size w wr) (fun _ i _ => 402 - (RowKit.intOf i).toNat)
  case atStart => exact ⟨0, Nat.zero_le _, rfl, fun _ h => absurd h (Nat.not_lt_zero _), hE0, hZ0, hB0⟩
  case round =>
    obtain ⟨pos, hpos, rfl, hbad, hN, hZ, hBel⟩ := hrel
    clear hE0 hZ0 hB0
    have hD4 : D.length ≤ 400 := by have := HDL.out; omega
    have hlim := val_limbs hpos hD4 hbad
    obtain ⟨A, L, C, rfl⟩ := hN.frm
    have k0 := hZ.cell 0
    have k1 := hZ.cell 1
    have kf := hZ.frozen
    have HBAD := Lib.hid hbad
    by_cases hp : pos < D.length
    · have hlt : decide (((1 + pos : Nat) : Int) < (l.length : Int)) = true := decide_eq_true (by have := HDL.out; omega)
      have hlt2 : (1 + (pos : Int)) < (l.length : Int) := by have := HDL.out; omega
      have hge0 : (0 : Int) ≤ (1 + (pos : Int)) := by omega
      have hlt3 : (1 : Int) < (l.length : Int) := by have := HDL.out; omega
      obtain ⟨c, hc⟩ : ∃ c, c = D.getD pos 0 := ⟨_, rfl⟩
      obtain ⟨c0, hc0⟩ : ∃ c, c = D.getD 0 0 := ⟨_, rfl⟩
      have hgc : ∀ hk, (⟨l.toArray⟩ : ByteArray)[1 + pos]'hk = c := fun hk => by rw [hc]; exact str_at l D 1 pos HD.out hk
      have hgc' : ∀ hk, (⟨l.toArray⟩ : ByteArray)[((1 + pos : Nat) : Int).toNat]'hk = c := fun hk => by
        have e : ((1 + pos : Nat) : Int).toNat = 1 + pos := by omega
        simp only [e]; exact hgc _
      have hg0 : ∀ hk, (⟨l.toArray⟩ : ByteArray)[1]'hk = c0 := fun hk => by rw [hc0]; exact str_at l D 1 0 HD.out hk
      have hval := Lib.hid (val_next hp)
      have hbc : badAt true D pos = (!figB c || (decide (pos ≠ 0) && decide (c0 = 48)) || (decide (pos = 0) && (decide (c = 48) && true))) := by rw [hc, hc0]; rfl
      have HBC := Lib.hid hbc
      rw [← hc] at hval
      have HC := Lib.hid (And.intro hc hc0)
      obtain ⟨V, hV⟩ : ∃ V, V = valT (D.take pos) := ⟨_, rfl⟩
      rw [← hV] at hN hlim hval
      clear hbc hc hc0 hbad hV
      have hc256 := c.toNat_lt
      have hO10 := fun w => rof_any 10 (by decide) w
      have hMu := fun va vb w h h' => rmul_any va vb V 10 w h h' (Nat.le_trans hlim (by decide)) (Nat.le_trans (limbs_len_le (k := 1) (by decide)) (by decide))
      have hOd := fun w => rof_any (c.toNat - 48) (by unfold W64; omega) w
      have hAd := fun va vb w h h' => radd_any va vb (V * 10) (c.toNat - 48) w h h' (Nat.le_trans (limbs_len_mul _ _) (by have := limbs_len_le (k := 1) (n := 10) (by decide); omega)) (Nat.le_trans (limbs_len_le (k := 1) (by rw [Nat.pow_one]; unfold W64; omega)) (by decide))
      have hww : IntKind.i64.wrap (((1 + pos : Nat) : Int) + 1) = ((1 + (pos + 1) : Nat) : Int) := by rw [IntKind.wrap_i64]; have := HDL.out; omega
      by_cases p0 : pos = 0
      · subst p0
        obtain rfl : c = c0 := HC.out.1.trans HC.out.2.symm
        by_cases hz : c.toNat = 48
        · have hd3 : (((c.toNat : Nat) : Int) == 48) = true := by rw [hz]; rfl
          have hd1 : decide (((c.toNat : Nat) : Int) < 48) = false := decide_eq_false (by omega)
          have hd2 : decide ((57 : Int) < ((c.toNat : Nat) : Int)) = false := decide_eq_false (by omega)
          go_wp2_with fail
          have hnew : badAt true D 0 = true := by rw [HBC.out, c48 hz]; rfl
          have hrd := rd_bad (pos := 0) (x := 1) hp HBAD.out hnew (by first | rfl | simp)
          have hZ3 := (hZ.set_ 0 (.bool false)).set_ 1 (.slice none 0 0)
          have q0 := hZ3.cell 0
          have q1 := hZ3.cell 1
          have hB3 := bset (bset hBel (X := w.heap.size) (i := 0) (Nat.le_refl _) (.bool false)) (X := w.heap.size) (i := 1) (Nat.le_refl _) (.slice none 0 0)
          exact bodyPost_ret (v := .tuple #[.agg #[.bool false, .slice none 0 0], .int .i64 1, .int .i64 3]) (by simp at q0 q1; simp [results, Tryz.results23, go_sem, q0, q1]) rfl ⟨_, by rw [hrd], by rw [hrd]; exact ⟨_, rfl, IsN.zero _⟩, hB3⟩
        · have hd3 : (((c.toNat : Nat) : Int) == 48) = false := by rw [beq_eq_false_iff_ne]; omega
          have hcn : c ≠ 48 := fun e => hz (by rw [e]; rfl)
          by_cases hfig : figB c = true
          · have hc48 : 48 ≤ c.toNat ∧ c.toNat ≤ 57 := by unfold figB at hfig; rw [Bool.and_eq_true, decide_eq_true_eq, decide_eq_true_eq] at hfig; exact hfig
            have hd1 : decide (((c.toNat : Nat) : Int) < 48) = false := decide_eq_false (by omega)
            have hd2 : decide ((57 : Int) < ((c.toNat : Nat) : Int)) = false := decide_eq_false (by omega)
            have hw8 : IntKind.u8.wrap (((c.toNat : Nat) : Int) - 48) = ((c.toNat - 48 : Nat) : Int) := by rw [IntKind.wrap_u8]; omega
            have hw9 : IntKind.u64.wrap ((c.toNat - 48 : Nat) : Int) = ((c.toNat - 48 : Nat) : Int) := by rw [IntKind.wrap_u64]; omega
            go_wp2_with fail
            have hnew : badAt true D 0 = false := by rw [HBC.out, hfig, decide_eq_false hcn]; simp
            refine (hO10 _).mono ?_
            rintro e w1 ⟨v1, rfl, g1, e1⟩
            have k1 := hN.below e1
            go_wp2_with fail
            refine (hMu _ _ _ k1 g1).mono ?_
            rintro e w2 ⟨v2, rfl, g2, e2⟩
            go_wp2_with fail
            refine (hOd _).mono ?_
            rintro e w3 ⟨v3, rfl, g3, e3⟩
            have k3 := g2.below e3
            go_wp2_with fail
            refine (hAd _ _ _ k3 g3).mono ?_
            rintro e w4 ⟨v4, rfl, g4, e4⟩
            have d4 : Below wr.heap.size wr w4 := bstep (bstep (bstep e1 e2) e3) e4
            have HV := hval.out
            go_wp2_with fail
            refine ⟨⟨0 + 1, by omega, congrArg (Value.int .i64) (by omega), ?_, by rw [HV]; exact g4, hZ.below d4 hZ.lt, hBel.trans (d4.mono hBel.size)⟩, ?_⟩
            · intro i hi
              rcases Nat.lt_or_ge i 0 with h | h
              · exact HBAD.out i h
              · obtain rfl : i = 0 := by omega
                exact hnew
            · simp [RowKit.intOf] <;> omega
          · have hfig' : figB c = false := by cases h : figB c <;> simp_all
            have hnot : ¬ (48 ≤ c.toNat ∧ c.toNat ≤ 57) := fun h => by unfold figB at hfig'; rw [decide_eq_true h.1, decide_eq_true h.2] at hfig'; cases hfig'
            by_cases h48 : c.toNat < 48
            · have hd1 : decide (((c.toNat : Nat) : Int) < 48) = true := decide_eq_true (by omega)
              go_wp2_with fail
              have hnew : badAt true D 0 = true := by rw [HBC.out, hfig']; rfl
              have hrd := rd_bad (pos := 0) (x := 1) hp HBAD.out hnew (by first | rfl | simp)
              have hZ3 := (hZ.set_ 0 (.bool false)).set_ 1 (.slice none 0 0)
              have q0 := hZ3.cell 0
              have q1 := hZ3.cell 1
              have hB3 := bset (bset hBel (X := w.heap.size) (i := 0) (Nat.le_refl _) (.bool false)) (X := w.heap.size) (i := 1) (Nat.le_refl _) (.slice none 0 0)
              exact bodyPost_ret (v := .tuple #[.agg #[.bool false, .slice none 0 0], .int .i64 1, .int .i64 3]) (by simp at q0 q1; simp [results, Tryz.results23, go_sem, q0, q1]) rfl ⟨_, by rw [hrd], by rw [hrd]; exact ⟨_, rfl, IsN.zero _⟩, hB3⟩
            · have hd1 : decide (((c.toNat : Nat) : Int) < 48) = false := decide_eq_false (by omega)
              have hd2 : decide ((57 : Int) < ((c.toNat : Nat) : Int)) = true := decide_eq_true (by omega)
              go_wp2_with fail
              have hnew : badAt true D 0 = true := by rw [HBC.out, hfig']; rfl
              have hrd := rd_bad (pos := 0) (x := 1) hp HBAD.out hnew (by first | rfl | simp)
              have hZ3 := (hZ.set_ 0 (.bool false)).set_ 1 (.slice none 0 0)
              have q0 := hZ3.cell 0
              have q1 := hZ3.cell 1
              have hB3 := bset (bset hBel (X := w.heap.size) (i := 0) (Nat.le_refl _) (.bool false)) (X := w.heap.size) (i := 1) (Nat.le_refl _) (.slice none 0 0)
              exact bodyPost_ret (v := .tuple #[.agg #[.bool false, .slice none 0 0], .int .i64 1, .int .i64 3]) (by simp at q0 q1; simp [results, Tryz.results23, go_sem, q0, q1]) rfl ⟨_, by rw [hrd], by rw [hrd]; exact ⟨_, rfl, IsN.zero _⟩, hB3⟩
      · have hgt : decide ((1 : Int) < ((1 + pos : Nat) : Int)) = true := decide_eq_true (by omega)
        have hne1 : (((1 + pos : Nat) : Int) == 1) = decide (1 + pos = 1) := by
          by_cases h : 1 + pos = 1
          · rw [h, decide_eq_true rfl]; rfl
          · rw [decide_eq_false h, beq_eq_false_iff_ne]; omega
        rw [decide_eq_false (by omega)] at hne1
        by_cases hx : c0.toNat = 48
        · have hd6 : (((c0.toNat : Nat) : Int) == 48) = true := by rw [hx]; rfl
          have hx1 : c0 = 48 := c48 hx
          by_cases hfig : figB c = true
          · have hc48 : 48 ≤ c.toNat ∧ c.toNat ≤ 57 := by unfold figB at hfig; rw [Bool.and_eq_true, decide_eq_true_eq, decide_eq_true_eq] at hfig; exact hfig
            have hd1 : decide (((c.toNat : Nat) : Int) < 48) = false := decide_eq_false (by omega)
            have hd2 : decide ((57 : Int) < ((c.toNat : Nat) : Int)) = false := decide_eq_false (by omega)
            have hw8 : IntKind.u8.wrap (((c.toNat : Nat) : Int) - 48) = ((c.toNat - 48 : Nat) : Int) := by rw [IntKind.wrap_u8]; omega
            have hw9 : IntKind.u64.wrap ((c.toNat - 48 : Nat) : Int) = ((c.toNat - 48 : Nat) : Int) := by rw [IntKind.wrap_u64]; omega
            go_wp2_with fail
            have hnew : badAt true D pos = true := by rw [HBC.out, hfig, decide_eq_true hx1, decide_eq_true p0]; rfl
            have hrd := rd_bad (x := (1 + (pos : Int))) hp HBAD.out hnew (by first | rfl | simp)
            have hZ3 := (hZ.set_ 0 (.bool false)).set_ 1 (.slice none 0 0)
            have q0 := hZ3.cell 0
            have q1 := hZ3.cell 1
            have hB3 := bset (bset hBel (X := w.heap.size) (i := 0) (Nat.le_refl _) (.bool false)) (X := w.heap.size) (i := 1) (Nat.le_refl _) (.slice none 0 0)
            exact bodyPost_ret (v := .tuple #[.agg #[.bool false, .slice none 0 0], .int .i64 (1 + (pos : Int)), .int .i64 3]) (by simp at q0 q1; simp [results, Tryz.results23, go_sem, q0, q1]) rfl ⟨_, by rw [hrd], by rw [hrd]; exact ⟨_, rfl, IsN.zero _⟩, hB3⟩
          · have hfig' : figB c = false := by cases h : figB c <;> simp_all
            have hnot : ¬ (48 ≤ c.toNat ∧ c.toNat ≤ 57) := fun h => by unfold figB at hfig'; rw [decide_eq_true h.1, decide_eq_true h.2] at hfig'; cases hfig'
            by_cases h48 : c.toNat < 48
            · have hd1 : decide (((c.toNat : Nat) : Int) < 48) = true := decide_eq_true (by omega)
              go_wp2_with fail
              have hnew : badAt true D pos = true := by rw [HBC.out, hfig']; rfl
              have hrd := rd_bad (x := (1 + (pos : Int))) hp HBAD.out hnew (by first | rfl | simp)
              have hZ3 := (hZ.set_ 0 (.bool false)).set_ 1 (.slice none 0 0)
              have q0 := hZ3.cell 0
              have q1 := hZ3.cell 1
              have hB3 := bset (bset hBel (X := w.heap.size) (i := 0) (Nat.le_refl _) (.bool false)) (X := w.heap.size) (i := 1) (Nat.le_refl _) (.slice none 0 0)
              exact bodyPost_ret (v := .tuple #[.agg #[.bool false, .slice none 0 0], .int .i64 (1 + (pos : Int)), .int .i64 3]) (by simp at q0 q1; simp [results, Tryz.results23, go_sem, q0, q1]) rfl ⟨_, by rw [hrd], by rw [hrd]; exact ⟨_, rfl, IsN.zero _⟩, hB3⟩
            · have hd1 : decide (((c.toNat : Nat) : Int) < 48) = false := decide_eq_false (by omega)
              have hd2 : decide ((57 : Int) < ((c.toNat : Nat) : Int)) = true := decide_eq_true (by omega)
              go_wp2_with fail
              have hnew : badAt true D pos = true := by rw [HBC.out, hfig']; rfl
              have hrd := rd_bad (x := (1 + (pos : Int))) hp HBAD.out hnew (by first | rfl | simp)
              have hZ3 := (hZ.set_ 0 (.bool false)).set_ 1 (.slice none 0 0)
              have q0 := hZ3.cell 0
              have q1 := hZ3.cell 1
              have hB3 := bset (bset hBel (X := w.heap.size) (i := 0) (Nat.le_refl _) (.bool false)) (X := w.heap.size) (i := 1) (Nat.le_refl _) (.slice none 0 0)
              exact bodyPost_ret (v := .tuple #[.agg #[.bool false, .slice none 0 0], .int .i64 (1 + (pos : Int)), .int .i64 3]) (by simp at q0 q1; simp [results, Tryz.results23, go_sem, q0, q1]) rfl ⟨_, by rw [hrd], by rw [hrd]; exact ⟨_, rfl, IsN.zero _⟩, hB3⟩
        · have hd6 : (((c0.toNat : Nat) : Int) == 48) = false := by rw [beq_eq_false_iff_ne]; omega
          have hx1 : c0 ≠ 48 := fun e => hx (by rw [e]; rfl)
          by_cases hfig : figB c = true
          · have hc48 : 48 ≤ c.toNat ∧ c.toNat ≤ 57 := by unfold figB at hfig; rw [Bool.and_eq_true, decide_eq_true_eq, decide_eq_true_eq] at hfig; exact hfig
            have hd1 : decide (((c.toNat : Nat) : Int) < 48) = false := decide_eq_false (by omega)
            have hd2 : decide ((57 : Int) < ((c.toNat : Nat) : Int)) = false := decide_eq_false (by omega)
            have hw8 : IntKind.u8.wrap (((c.toNat : Nat) : Int) - 48) = ((c.toNat - 48 : Nat) : Int) := by rw [IntKind.wrap_u8]; omega
            have hw9 : IntKind.u64.wrap ((c.toNat - 48 : Nat) : Int) = ((c.toNat - 48 : Nat) : Int) := by rw [IntKind.wrap_u64]; omega
            go_wp2_with fail
            have hnew : badAt true D pos = false := by rw [HBC.out, hfig, decide_eq_false hx1, decide_eq_false p0]; simp
            refine (hO10 _).mono ?_
            rintro e w1 ⟨v1, rfl, g1, e1⟩
            have k1 := hN.below e1
            go_wp2_with fail
            refine (hMu _ _ _ k1 g1).mono ?_
            rintro e w2 ⟨v2, rfl, g2, e2⟩
            go_wp2_with fail
            refine (hOd _).mono ?_
            rintro e w3 ⟨v3, rfl, g3, e3⟩
            have k3 := g2.below e3
            go_wp2_with fail
            refine (hAd _ _ _ k3 g3).mono ?_
            rintro e w4 ⟨v4, rfl, g4, e4⟩
            have d4 : Below wr.heap.size wr w4 := bstep (bstep (bstep e1 e2) e3) e4
            have HV := hval.out
            go_wp2_with fail
            refine ⟨⟨pos + 1, by omega, congrArg (Value.int .i64) (by omega), ?_, by rw [HV]; exact g4, hZ.below d4 hZ.lt, hBel.trans (d4.mono hBel.size)⟩, ?_⟩
            · intro i hi
              rcases Nat.lt_or_ge i pos with h | h
              · exact HBAD.out i h
              · obtain rfl : i = pos := by omega
                exact hnew
            · simp [RowKit.intOf] <;> omega
          · have hfig' : figB c = false := by cases h : figB c <;> simp_all
            have hnot : ¬ (48 ≤ c.toNat ∧ c.toNat ≤ 57) := fun h => by unfold figB at hfig'; rw [decide_eq_true h.1, decide_eq_true h.2] at hfig'; cases hfig'
            by_cases h48 : c.toNat < 48
            · have hd1 : decide (((c.toNat : Nat) : Int) < 48) = true := decide_eq_true (by omega)
              go_wp2_with fail
              have hnew : badAt true D pos = true := by rw [HBC.out, hfig']; rfl
              have hrd := rd_bad (x := (1 + (pos : Int))) hp HBAD.out hnew (by first | rfl | simp)
              have hZ3 := (hZ.set_ 0 (.bool false)).set_ 1 (.slice none 0 0)
              have q0 := hZ3.cell 0
              have q1 := hZ3.cell 1
              have hB3 := bset (bset hBel (X := w.heap.size) (i := 0) (Nat.le_refl _) (.bool false)) (X := w.heap.size) (i := 1) (Nat.le_refl _) (.slice none 0 0)
              exact bodyPost_ret (v := .tuple #[.agg #[.bool false, .slice none 0 0], .int .i64 (1 + (pos : Int)), .int .i64 3]) (by simp at q0 q1; simp [results, Tryz.results23, go_sem, q0, q1]) rfl ⟨_, by rw [hrd], by rw [hrd]; exact ⟨_, rfl, IsN.zero _⟩, hB3⟩
            · have hd1 : decide (((c.toNat : Nat) : Int) < 48) = false := decide_eq_false (by omega)
              have hd2 : decide ((57 : Int) < ((c.toNat : Nat) : Int)) = true := decide_eq_true (by omega)
              go_wp2_with fail
              have hnew : badAt true D pos = true := by rw [HBC.out, hfig']; rfl
              have hrd := rd_bad (x := (1 + (pos : Int))) hp HBAD.out hnew (by first | rfl | simp)
              have hZ3 := (hZ.set_ 0 (.bool false)).set_ 1 (.slice none 0 0)
              have q0 := hZ3.cell 0
              have q1 := hZ3.cell 1
              have hB3 := bset (bset hBel (X := w.heap.size) (i := 0) (Nat.le_refl _) (.bool false)) (X := w.heap.size) (i := 1) (Nat.le_refl _) (.slice none 0 0)
              exact bodyPost_ret (v := .tuple #[.agg #[.bool false, .slice none 0 0], .int .i64 (1 + (pos : Int)), .int .i64 3]) (by simp at q0 q1; simp [results, Tryz.results23, go_sem, q0, q1]) rfl ⟨_, by rw [hrd], by rw [hrd]; exact ⟨_, rfl, IsN.zero _⟩, hB3⟩
    · have hpe : pos = D.length := by omega
      have hltn : ¬ ((1 + (pos : Int)) < (l.length : Int)) := by have := HDL.out; omega
      have hltd : decide ((1 + (pos : Int)) < (l.length : Int)) = false := decide_eq_false hltn
      have hlt : decide (((1 + pos : Nat) : Int) < (l.length : Int)) = false := decide_eq_false (by have := HDL.out; omega)
      by_cases h0 : D.length = 0
      · have hll : (((l.length : Nat) : Int) == 1) = true := by rw [beq_iff_eq]; have := HDL.out; omega
        have hrd := rd_nil (neg := true) h0
        have HRD := Lib.hid (And.intro hrd h0)
        clear h0 hpe hrd hpos hp hbad hlim hD4
        go_wp2_with fail
        have hZ3 := (hZ.set_ 0 (.bool false)).set_ 1 (.slice none 0 0)
        have q0 := hZ3.cell 0
        have q1 := hZ3.cell 1
        have hB3 := bset (bset hBel (X := w.heap.size) (i := 0) (Nat.le_refl _) (.bool false)) (X := w.heap.size) (i := 1) (Nat.le_refl _) (.slice none 0 0)
        exact bodyPost_ret (v := .tuple #[.agg #[.bool false, .slice none 0 0], .int .i64 l.length, .int .i64 3]) (by simp at q0 q1; simp [results, Tryz.results23, go_sem, q0, q1]) rfl ⟨_, by rw [HRD.out.1, show ((l.length : Nat) : Int) = 1 by have := HDL.out; have := HRD.out.2; omega]; rfl, by rw [HRD.out.1]; exact ⟨_, rfl, IsN.zero _⟩, hB3⟩
      · have hll : (((l.length : Nat) : Int) == 1) = false := by rw [beq_eq_false_iff_ne]; have := HDL.out; omega
        have hrd := rd_good (by rw [← hpe]; exact hbad) h0
        have HRD := Lib.hid hrd
        rw [hpe, List.take_of_length_le (Nat.le_refl _)] at hN
        have hM := fun w h => rmade_any true (.slice A L C) (valT D) w h
        clear h0 hrd hpos hp hbad hlim hD4
        go_wp2_with fail
        refine (hM _ hN).mono ?_
        rintro e w2 ⟨v2, rfl, ⟨n2, rfl, h2⟩, b2⟩
        obtain ⟨A2, L2, C2, rfl⟩ := h2.frm
        have hZ2 := hZ.below b2 hZ.lt
        obtain ⟨bz, hbz⟩ : ∃ bz, bz = decide (sided true (valT D) < 0) := ⟨_, rfl⟩
        rw [← hbz]
        obtain ⟨p1, p2, p3⟩ := put2 hZ2 (.bool bz) (.slice A2 L2 C2) (by simp [noU]) (hBel.trans (b2.mono hBel.size)) (Nat.le_refl _)
        have x0 := hZ2.cell 0
        have x1 := hZ2.cell 1
        have xf := hZ2.frozen
        have HP := Lib.hid (And.intro p1 (And.intro (p2 _ _ h2) (And.intro p3 hbz)))
        clear p1 p2 p3 hbz k0 k1 kf
        go_wp2_with fail
        obtain ⟨P1, P2, P3, P4⟩ := HP.out
        have q0 := P1.cell 0
        have q1 := P1.cell 1
        exact bodyPost_ret (v := .tuple #[.agg #[.bool bz, .slice A2 L2 C2], .int .i64 0, .int .i64 0]) (by simp at q0 q1; simp [results, Tryz.results23, go_sem, q0, q1]) rfl ⟨_, by rw [HRD.out], by rw [HRD.out]; exact ⟨_, by rw [P4]; rfl, P2⟩, P3⟩
set_option maxRecDepth 100000 in
set_option maxHeartbeats 4000000 in
theorem rzread_pos (l D : List UInt8) (hl : l.length ≤ 400) (hD : l.drop 0 = D) (hne : 0 < l.length) (hc9 : (((l.getD 0 0).toNat : Int) == 45) = false) (w : World) :
    Calls Tryz.prog 23 #[strV l] w fun e w' => ∃ zv, e = .returned (.tuple #[zv, .int .i64 (readD false D).2.1, .int .i64 (readD false D).2.2]) ∧ IsZ w' zv (readD false D).1 ∧ Below w.heap.size w w' := by
  have hl1 : decide ((400 : Int) < (l.length : Int)) = false := decide_eq_false (by omega)
  have hl0 : decide ((0 : Int) < (l.length : Int)) = true := decide_eq_true (by omega)
  have hli : (0 : Int) < (l.length : Int) := by omega
  have hsz : (⟨l.toArray⟩ : ByteArray).size = l.length := by simp [ByteArray.size]
  obtain ⟨c9, hc9'⟩ : ∃ c, c = l.getD 0 0 := ⟨_, rfl⟩
  rw [← hc9'] at hc9
  have hg9 : ∀ hk, (⟨l.toArray⟩ : ByteArray)[0]'hk = c9 := fun hk => by rw [hc9']; exact str_at l l 0 0 rfl (by simpa using hk)
  have hDl : D.length = l.length - 0 := by rw [← hD, List.length_drop]
  have HDL := Lib.hid hDl
  have HD := Lib.hid hD
  have HC9 := Lib.hid hc9'
  clear hD hDl hc9'
  go_enter Tryz.func23, Tryz.ntmps23
  go_wp2_with fail
  clear hg9 hc9 hl1 hl0 hli
  have hZ0 := (Blk.new w 25 #[.bool false, .slice none 0 0]).alloc (.cells #[] 44)
  have hB0 := ((Below.refl _ w).alloc (Nat.le_refl _) (.cells #[.bool false, .slice none 0 0] 25)).alloc (by simp) (.cells #[] 44)
  have hE0 : IsN ((w.alloc (.cells #[.bool false, .slice none 0 0] 25)).alloc (.cells #[] 44)) (.slice (some ⟨w.heap.size + 1, 0, none⟩) 0 0) (valT (D.take 0)) := by
    show IsL _ _ (limbs 0)
    rw [limbs_zero]
    exact ⟨_, _, rfl, Nat.le_refl _, by decide, Bd.nil, rfl, fun h => absurd h (by simp)⟩
  go_loopw [6, 7] (fun nV iV wr => ∃ pos : Nat, pos ≤ D.length ∧ iV = .int .i64 ((0 + pos : Nat) : Int) ∧ (∀ i, i < pos → badAt false D i = false) ∧ IsN wr nV (valT (D.take pos)) ∧ Blk wr w.heap.size 25 #[.bool false, .slice none 0 0] ∧ Below w.heap.size w wr) (fun _ i _ => 402 - (RowKit.intOf i).toNat)
  case atStart => exact ⟨0, Nat.zero_le _, rfl, fun _ h => absurd h (Nat.not_lt_zero _), hE0, hZ0, hB0⟩
  case round =>
    obtain ⟨pos, hpos, rfl, hbad, hN, hZ, hBel⟩ := hrel
    clear hE0 hZ0 hB0
    have hD4 : D.length ≤ 400 := by have := HDL.out; omega
    have hlim := val_limbs hpos hD4 hbad
    obtain ⟨A, L, C, rfl⟩ := hN.frm
    have k0 := hZ.cell 0
    have k1 := hZ.cell 1
    have kf := hZ.frozen
    have HBAD := Lib.hid hbad
    by_cases hp : pos < D.length
    · have hlt : decide (((0 + pos : Nat) : Int) < (l.length : Int)) = true := decide_eq_true (by have := HDL.out; omega)
      have hlt2 : (pos : Int) < (l.length : Int) := by have := HDL.out; omega
      have hge0 : (0 : Int) ≤ (pos : Int) := by omega
      have hlt3 : (0 : Int) < (l.length : Int) := by have := HDL.out; omega
      obtain ⟨c, hc⟩ : ∃ c, c = D.getD pos 0 := ⟨_, rfl⟩
      obtain ⟨c0, hc0⟩ : ∃ c, c = D.getD 0 0 := ⟨_, rfl⟩
      have hgc : ∀ hk, (⟨l.toArray⟩ : ByteArray)[0 + pos]'hk = c := fun hk => by rw [hc]; exact str_at l D 0 pos HD.out hk
      have hgc' : ∀ hk, (⟨l.toArray⟩ : ByteArray)[((0 + pos : Nat) : Int).toNat]'hk = c := fun hk => by
        have e : ((0 + pos : Nat) : Int).toNat = 0 + pos := by omega
        simp only [e]; exact hgc _
      have hgn : ∀ hk, (⟨l.toArray⟩ : ByteArray)[pos]'hk = c := fun hk => by
        have e : 0 + pos = pos := Nat.zero_add pos
        have := hgc (by rw [e]; exact hk)
        simp only [e] at this; exact this
      have hg0 : ∀ hk, (⟨l.toArray⟩ : ByteArray)[0]'hk = c0 := fun hk => by rw [hc0]; exact str_at l D 0 0 HD.out hk
      have hval := Lib.hid (val_next hp)
      have hbc : badAt false D pos = (!figB c || (decide (pos ≠ 0) && decide (c0 = 48)) || (decide (pos = 0) && (decide (c = 48) && false))) := by rw [hc, hc0]; rfl
      have HBC := Lib.hid hbc
      rw [← hc] at hval
      have HC := Lib.hid (And.intro hc hc0)
      obtain ⟨V, hV⟩ : ∃ V, V = valT (D.take pos) := ⟨_, rfl⟩
      rw [← hV] at hN hlim hval
      clear hbc hc hc0 hbad hV
      have hc256 := c.toNat_lt
      have hO10 := fun w => rof_any 10 (by decide) w
      have hMu := fun va vb w h h' => rmul_any va vb V 10 w h h' (Nat.le_trans hlim (by decide)) (Nat.le_trans (limbs_len_le (k := 1) (by decide)) (by decide))
      have hOd := fun w => rof_any (c.toNat - 48) (by unfold W64; omega) w
      have hAd := fun va vb w h h' => radd_any va vb (V * 10) (c.toNat - 48) w h h' (Nat.le_trans (limbs_len_mul _ _) (by have := limbs_len_le (k := 1) (n := 10) (by decide); omega)) (Nat.le_trans (limbs_len_le (k := 1) (by rw [Nat.pow_one]; unfold W64; omega)) (by decide))
      have hww : IntKind.i64.wrap (((0 + pos : Nat) : Int) + 1) = ((0 + (pos + 1) : Nat) : Int) := by rw [IntKind.wrap_i64]; have := HDL.out; omega
      by_cases p0 : pos = 0
      · subst p0
        obtain rfl : c = c0 := HC.out.1.trans HC.out.2.symm
        by_cases hfig : figB c = true
        · have hc48 : 48 ≤ c.toNat ∧ c.toNat ≤ 57 := by unfold figB at hfig; rw [Bool.and_eq_true, decide_eq_true_eq, decide_eq_true_eq] at hfig; exact hfig
          have hd1 : decide (((c.toNat : Nat) : Int) < 48) = false := decide_eq_false (by omega)
          have hd2 : decide ((57 : Int) < ((c.toNat : Nat) : Int)) = false := decide_eq_false (by omega)
          have hw8 : IntKind.u8.wrap (((c.toNat : Nat) : Int) - 48) = ((c.toNat - 48 : Nat) : Int) := by rw [IntKind.wrap_u8]; omega
          have hw9 : IntKind.u64.wrap ((c.toNat - 48 : Nat) : Int) = ((c.toNat - 48 : Nat) : Int) := by rw [IntKind.wrap_u64]; omega
          go_wp2_with fail
          have hnew : badAt false D 0 = false := by rw [HBC.out, hfig]; simp
          refine (hO10 _).mono ?_
          rintro e w1 ⟨v1, rfl, g1, e1⟩
          have k1 := hN.below e1
          go_wp2_with fail
          refine (hMu _ _ _ k1 g1).mono ?_
          rintro e w2 ⟨v2, rfl, g2, e2⟩
          go_wp2_with fail
          refine (hOd _).mono ?_
          rintro e w3 ⟨v3, rfl, g3, e3⟩
          have k3 := g2.below e3
          go_wp2_with fail
          refine (hAd _ _ _ k3 g3).mono ?_
          rintro e w4 ⟨v4, rfl, g4, e4⟩
          have d4 : Below wr.heap.size wr w4 := bstep (bstep (bstep e1 e2) e3) e4
          have HV := hval.out
          go_wp2_with fail
          refine ⟨⟨0 + 1, by omega, congrArg (Value.int .i64) (by omega), ?_, by rw [HV]; exact g4, hZ.below d4 hZ.lt, hBel.trans (d4.mono hBel.size)⟩, ?_⟩
          · intro i hi
            rcases Nat.lt_or_ge i 0 with h | h
            · exact HBAD.out i h
            · obtain rfl : i = 0 := by omega
              exact hnew
          · simp [RowKit.intOf] <;> omega
        · have hfig' : figB c = false := by cases h : figB c <;> simp_all
          have hnot : ¬ (48 ≤ c.toNat ∧ c.toNat ≤ 57) := fun h => by unfold figB at hfig'; rw [decide_eq_true h.1, decide_eq_true h.2] at hfig'; cases hfig'
          by_cases h48 : c.toNat < 48
          · have hd1 : decide (((c.toNat : Nat) : Int) < 48) = true := decide_eq_true (by omega)
            go_wp2_with fail
            have hnew : badAt false D 0 = true := by rw [HBC.out, hfig']; rfl
            have hrd := rd_bad (pos := 0) (x := 0) hp HBAD.out hnew (by first | rfl | simp)
            have hZ3 := (hZ.set_ 0 (.bool false)).set_ 1 (.slice none 0 0)
            have q0 := hZ3.cell 0
            have q1 := hZ3.cell 1
            have hB3 := bset (bset hBel (X := w.heap.size) (i := 0) (Nat.le_refl _) (.bool false)) (X := w.heap.size) (i := 1) (Nat.le_refl _) (.slice none 0 0)
            exact bodyPost_ret (v := .tuple #[.agg #[.bool false, .slice none 0 0], .int .i64 0, .int .i64 3]) (by simp at q0 q1; simp [results, Tryz.results23, go_sem, q0, q1]) rfl ⟨_, by rw [hrd], by rw [hrd]; exact ⟨_, rfl, IsN.zero _⟩, hB3⟩
          · have hd1 : decide (((c.toNat : Nat) : Int) < 48) = false := decide_eq_false (by omega)
            have hd2 : decide ((57 : Int) < ((c.toNat : Nat) : Int)) = true := decide_eq_true (by omega)
            go_wp2_with fail
            have hnew : badAt false D 0 = true := by rw [HBC.out, hfig']; rfl
            have hrd := rd_bad (pos := 0) (x := 0) hp HBAD.out hnew (by first | rfl | simp)
            have hZ3 := (hZ.set_ 0 (.bool false)).set_ 1 (.slice none 0 0)
            have q0 := hZ3.cell 0
            have q1 := hZ3.cell 1
            have hB3 := bset (bset hBel (X := w.heap.size) (i := 0) (Nat.le_refl _) (.bool false)) (X := w.heap.size) (i := 1) (Nat.le_refl _) (.slice none 0 0)
            exact bodyPost_ret (v := .tuple #[.agg #[.bool false, .slice none 0 0], .int .i64 0, .int .i64 3]) (by simp at q0 q1; simp [results, Tryz.results23, go_sem, q0, q1]) rfl ⟨_, by rw [hrd], by rw [hrd]; exact ⟨_, rfl, IsN.zero _⟩, hB3⟩
      · have hgt : decide ((0 : Int) < ((0 + pos : Nat) : Int)) = true := decide_eq_true (by omega)
        have hne1 : (((0 + pos : Nat) : Int) == 1) = decide (0 + pos = 1) := by
          by_cases h : 0 + pos = 1
          · rw [h, decide_eq_true rfl]; rfl
          · rw [decide_eq_false h, beq_eq_false_iff_ne]; omega
        clear hne1
        have hgt2 : 0 < pos := by omega
        have hgt3 : (0 : Int) < (pos : Int) := by omega
        by_cases hx : c0.toNat = 48
        · have hd6 : (((c0.toNat : Nat) : Int) == 48) = true := by rw [hx]; rfl
          have hx1 : c0 = 48 := c48 hx
          by_cases hfig : figB c = true
          · have hc48 : 48 ≤ c.toNat ∧ c.toNat ≤ 57 := by unfold figB at hfig; rw [Bool.and_eq_true, decide_eq_true_eq, decide_eq_true_eq] at hfig; exact hfig
            have hd1 : decide (((c.toNat : Nat) : Int) < 48) = false := decide_eq_false (by omega)
            have hd2 : decide ((57 : Int) < ((c.toNat : Nat) : Int)) = false := decide_eq_false (by omega)
            have hw8 : IntKind.u8.wrap (((c.toNat : Nat) : Int) - 48) = ((c.toNat - 48 : Nat) : Int) := by rw [IntKind.wrap_u8]; omega
            have hw9 : IntKind.u64.wrap ((c.toNat - 48 : Nat) : Int) = ((c.toNat - 48 : Nat) : Int) := by rw [IntKind.wrap_u64]; omega
            go_wp2_with fail
            have hnew : badAt false D pos = true := by rw [HBC.out, hfig, decide_eq_true hx1, decide_eq_true p0]; rfl
            have hrd := rd_bad (x := (pos : Int)) hp HBAD.out hnew (by first | rfl | simp)
            have hZ3 := (hZ.set_ 0 (.bool false)).set_ 1 (.slice none 0 0)
            have q0 := hZ3.cell 0
            have q1 := hZ3.cell 1
            have hB3 := bset (bset hBel (X := w.heap.size) (i := 0) (Nat.le_refl _) (.bool false)) (X := w.heap.size) (i := 1) (Nat.le_refl _) (.slice none 0 0)
            exact bodyPost_ret (v := .tuple #[.agg #[.bool false, .slice none 0 0], .int .i64 (pos : Int), .int .i64 3]) (by simp at q0 q1; simp [results, Tryz.results23, go_sem, q0, q1]) rfl ⟨_, by rw [hrd], by rw [hrd]; exact ⟨_, rfl, IsN.zero _⟩, hB3⟩
          · have hfig' : figB c = false := by cases h : figB c <;> simp_all
            have hnot : ¬ (48 ≤ c.toNat ∧ c.toNat ≤ 57) := fun h => by unfold figB at hfig'; rw [decide_eq_true h.1, decide_eq_true h.2] at hfig'; cases hfig'
            by_cases h48 : c.toNat < 48
            · have hd1 : decide (((c.toNat : Nat) : Int) < 48) = true := decide_eq_true (by omega)
              go_wp2_with fail
              have hnew : badAt false D pos = true := by rw [HBC.out, hfig']; rfl
              have hrd := rd_bad (x := (pos : Int)) hp HBAD.out hnew (by first | rfl | simp)
              have hZ3 := (hZ.set_ 0 (.bool false)).set_ 1 (.slice none 0 0)
              have q0 := hZ3.cell 0
              have q1 := hZ3.cell 1
              have hB3 := bset (bset hBel (X := w.heap.size) (i := 0) (Nat.le_refl _) (.bool false)) (X := w.heap.size) (i := 1) (Nat.le_refl _) (.slice none 0 0)
              exact bodyPost_ret (v := .tuple #[.agg #[.bool false, .slice none 0 0], .int .i64 (pos : Int), .int .i64 3]) (by simp at q0 q1; simp [results, Tryz.results23, go_sem, q0, q1]) rfl ⟨_, by rw [hrd], by rw [hrd]; exact ⟨_, rfl, IsN.zero _⟩, hB3⟩
            · have hd1 : decide (((c.toNat : Nat) : Int) < 48) = false := decide_eq_false (by omega)
              have hd2 : decide ((57 : Int) < ((c.toNat : Nat) : Int)) = true := decide_eq_true (by omega)
              go_wp2_with fail
              have hnew : badAt false D pos = true := by rw [HBC.out, hfig']; rfl
              have hrd := rd_bad (x := (pos : Int)) hp HBAD.out hnew (by first | rfl | simp)
              have hZ3 := (hZ.set_ 0 (.bool false)).set_ 1 (.slice none 0 0)
              have q0 := hZ3.cell 0
              have q1 := hZ3.cell 1
              have hB3 := bset (bset hBel (X := w.heap.size) (i := 0) (Nat.le_refl _) (.bool false)) (X := w.heap.size) (i := 1) (Nat.le_refl _) (.slice none 0 0)
              exact bodyPost_ret (v := .tuple #[.agg #[.bool false, .slice none 0 0], .int .i64 (pos : Int), .int .i64 3]) (by simp at q0 q1; simp [results, Tryz.results23, go_sem, q0, q1]) rfl ⟨_, by rw [hrd], by rw [hrd]; exact ⟨_, rfl, IsN.zero _⟩, hB3⟩
        · have hd6 : (((c0.toNat : Nat) : Int) == 48) = false := by rw [beq_eq_false_iff_ne]; omega
          have hx1 : c0 ≠ 48 := fun e => hx (by rw [e]; rfl)
          by_cases hfig : figB c = true
          · have hc48 : 48 ≤ c.toNat ∧ c.toNat ≤ 57 := by unfold figB at hfig; rw [Bool.and_eq_true, decide_eq_true_eq, decide_eq_true_eq] at hfig; exact hfig
            have hd1 : decide (((c.toNat : Nat) : Int) < 48) = false := decide_eq_false (by omega)
            have hd2 : decide ((57 : Int) < ((c.toNat : Nat) : Int)) = false := decide_eq_false (by omega)
            have hw8 : IntKind.u8.wrap (((c.toNat : Nat) : Int) - 48) = ((c.toNat - 48 : Nat) : Int) := by rw [IntKind.wrap_u8]; omega
            have hw9 : IntKind.u64.wrap ((c.toNat - 48 : Nat) : Int) = ((c.toNat - 48 : Nat) : Int) := by rw [IntKind.wrap_u64]; omega
            go_wp2_with fail
            have hnew : badAt false D pos = false := by rw [HBC.out, hfig, decide_eq_false hx1, decide_eq_false p0]; simp
            refine (hO10 _).mono ?_
            rintro e w1 ⟨v1, rfl, g1, e1⟩
            have k1 := hN.below e1
            go_wp2_with fail
            refine (hMu _ _ _ k1 g1).mono ?_
            rintro e w2 ⟨v2, rfl, g2, e2⟩
            go_wp2_with fail
            refine (hOd _).mono ?_
            rintro e w3 ⟨v3, rfl, g3, e3⟩
            have k3 := g2.below e3
            go_wp2_with fail
            refine (hAd _ _ _ k3 g3).mono ?_
            rintro e w4 ⟨v4, rfl, g4, e4⟩
            have d4 : Below wr.heap.size wr w4 := bstep (bstep (bstep e1 e2) e3) e4
            have HV := hval.out
            go_wp2_with fail
            refine ⟨⟨pos + 1, by omega, congrArg (Value.int .i64) (by omega), ?_, by rw [HV]; exact g4, hZ.below d4 hZ.lt, hBel.trans (d4.mono hBel.size)⟩, ?_⟩
            · intro i hi
              rcases Nat.lt_or_ge i pos with h | h
              · exact HBAD.out i h
              · obtain rfl : i = pos := by omega
                exact hnew
            · simp [RowKit.intOf] <;> omega
          · have hfig' : figB c = false := by cases h : figB c <;> simp_all
            have hnot : ¬ (48 ≤ c.toNat ∧ c.toNat ≤ 57) := fun h => by unfold figB at hfig'; rw [decide_eq_true h.1, decide_eq_true h.2] at hfig'; cases hfig'
            by_cases h48 : c.toNat < 48
            · have hd1 : decide (((c.toNat : Nat) : Int) < 48) = true := decide_eq_true (by omega)
              go_wp2_with fail
              have hnew : badAt false D pos = true := by rw [HBC.out, hfig']; rfl
              have hrd := rd_bad (x := (pos : Int)) hp HBAD.out hnew (by first | rfl | simp)
              have hZ3 := (hZ.set_ 0 (.bool false)).set_ 1 (.slice none 0 0)
              have q0 := hZ3.cell 0
              have q1 := hZ3.cell 1
              have hB3 := bset (bset hBel (X := w.heap.size) (i := 0) (Nat.le_refl _) (.bool false)) (X := w.heap.size) (i := 1) (Nat.le_refl _) (.slice none 0 0)
              exact bodyPost_ret (v := .tuple #[.agg #[.bool false, .slice none 0 0], .int .i64 (pos : Int), .int .i64 3]) (by simp at q0 q1; simp [results, Tryz.results23, go_sem, q0, q1]) rfl ⟨_, by rw [hrd], by rw [hrd]; exact ⟨_, rfl, IsN.zero _⟩, hB3⟩
            · have hd1 : decide (((c.toNat : Nat) : Int) < 48) = false := decide_eq_false (by omega)
              have hd2 : decide ((57 : Int) < ((c.toNat : Nat) : Int)) = true := decide_eq_true (by omega)
              go_wp2_with fail
              have hnew : badAt false D pos = true := by rw [HBC.out, hfig']; rfl
              have hrd := rd_bad (x := (pos : Int)) hp HBAD.out hnew (by first | rfl | simp)
              have hZ3 := (hZ.set_ 0 (.bool false)).set_ 1 (.slice none 0 0)
              have q0 := hZ3.cell 0
              have q1 := hZ3.cell 1
              have hB3 := bset (bset hBel (X := w.heap.size) (i := 0) (Nat.le_refl _) (.bool false)) (X := w.heap.size) (i := 1) (Nat.le_refl _) (.slice none 0 0)
              exact bodyPost_ret (v := .tuple #[.agg #[.bool false, .slice none 0 0], .int .i64 (pos : Int), .int .i64 3]) (by simp at q0 q1; simp [results, Tryz.results23, go_sem, q0, q1]) rfl ⟨_, by rw [hrd], by rw [hrd]; exact ⟨_, rfl, IsN.zero _⟩, hB3⟩
    · have hpe : pos = D.length := by omega
      have hltn : ¬ ((pos : Int) < (l.length : Int)) := by have := HDL.out; omega
      have hltd : decide ((pos : Int) < (l.length : Int)) = false := decide_eq_false hltn
      have hlt : decide (((0 + pos : Nat) : Int) < (l.length : Int)) = false := decide_eq_false (by have := HDL.out; omega)
      by_cases h0 : D.length = 0
      · have hll : (((l.length : Nat) : Int) == 0) = true := by rw [beq_iff_eq]; have := HDL.out; omega
        have hrd := rd_nil (neg := false) h0
        have HRD := Lib.hid (And.intro hrd h0)
        clear h0 hpe hrd hpos hp hbad hlim hD4
        go_wp2_with fail
        have hZ3 := (hZ.set_ 0 (.bool false)).set_ 1 (.slice none 0 0)
        have q0 := hZ3.cell 0
        have q1 := hZ3.cell 1
        have hB3 := bset (bset hBel (X := w.heap.size) (i := 0) (Nat.le_refl _) (.bool false)) (X := w.heap.size) (i := 1) (Nat.le_refl _) (.slice none 0 0)
        exact bodyPost_ret (v := .tuple #[.agg #[.bool false, .slice none 0 0], .int .i64 l.length, .int .i64 3]) (by simp at q0 q1; simp [results, Tryz.results23, go_sem, q0, q1]) rfl ⟨_, by rw [HRD.out.1, show ((l.length : Nat) : Int) = 0 by have := HDL.out; have := HRD.out.2; omega]; rfl, by rw [HRD.out.1]; exact ⟨_, rfl, IsN.zero _⟩, hB3⟩
      · have hll : (((l.length : Nat) : Int) == 0) = false := by rw [beq_eq_false_iff_ne]; have := HDL.out; omega
        have hrd := rd_good (by rw [← hpe]; exact hbad) h0
        have HRD := Lib.hid hrd
        rw [hpe, List.take_of_length_le (Nat.le_refl _)] at hN
        have hM := fun w h => rmade_any false (.slice A L C) (valT D) w h
        clear h0 hrd hpos hp hbad hlim hD4
        go_wp2_with fail
        refine (hM _ hN).mono ?_
        rintro e w2 ⟨v2, rfl, ⟨n2, rfl, h2⟩, b2⟩
        obtain ⟨A2, L2, C2, rfl⟩ := h2.frm
        have hZ2 := hZ.below b2 hZ.lt
        obtain ⟨bz, hbz⟩ : ∃ bz, bz = decide (sided false (valT D) < 0) := ⟨_, rfl⟩
        rw [← hbz]
        obtain ⟨p1, p2, p3⟩ := put2 hZ2 (.bool bz) (.slice A2 L2 C2) (by simp [noU]) (hBel.trans (b2.mono hBel.size)) (Nat.le_refl _)
        have x0 := hZ2.cell 0
        have x1 := hZ2.cell 1
        have xf := hZ2.frozen
        have HP := Lib.hid (And.intro p1 (And.intro (p2 _ _ h2) (And.intro p3 hbz)))
        clear p1 p2 p3 hbz k0 k1 kf
        go_wp2_with fail
        obtain ⟨P1, P2, P3, P4⟩ := HP.out
        have q0 := P1.cell 0
        have q1 := P1.cell 1
        exact bodyPost_ret (v := .tuple #[.agg #[.bool bz, .slice A2 L2 C2], .int .i64 0, .int .i64 0]) (by simp at q0 q1; simp [results, Tryz.results23, go_sem, q0, q1]) rfl ⟨_, by rw [HRD.out], by rw [HRD.out]; exact ⟨_, by rw [P4]; rfl, P2⟩, P3⟩
end Go.Proofs.YtooonjcpdbbniaaGreatDoor
