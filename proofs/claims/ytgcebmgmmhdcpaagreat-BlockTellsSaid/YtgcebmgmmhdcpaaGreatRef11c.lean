/- The document's blocks: what is loaded. Printed by gen_ref11b.py. -/
import Derived.Test.YtgcebmgmmhdcpaaGreatRef11
import Derived.Test.YtgcebmgmmhdcpaaGreatRS08
import Derived.Test.YtgcebmgmmhdcpaaGreatRef09d
import Derived.Deep.RegionHeld3
namespace Go.Proofs.YtgcebmgmmhdcpaaGreat
open Go.RowKit
attribute [local go_sem ↓] Go.wp_at_zero Go.wp_at_succ

set_option maxRecDepth 100000 in
set_option maxHeartbeats 4000000 in
theorem rload_wide (v : Value) (s : Int) (cs : List Nat) (wd : List Int) (w : World) (h : IsBk w v 4 s cs wd) (hl : wd.length ≤ 1000000) :
    Calls Tryz.prog 17 #[v] w fun e w' => ∃ v', e = .returned v' ∧ IsI w' v' wd ∧ Below w.heap.size w w' := by
  obtain ⟨i0, hi, hz0, hz1, hz2⟩ := info_parts info_i64
  obtain ⟨a, b, rfl, ha, hb⟩ := h
  obtain ⟨Aa, Ca, rfl, _, _⟩ := ha.form
  obtain ⟨Ab, Cb, rfl, _, _⟩ := id hb.form
  obtain ⟨W0, hW, hR, hB⟩ := box1 w 25 #[.int .i64 4, .int .i64 s, .slice Aa cs.length Ca, .slice Ab wd.length Cb]
  obtain ⟨g, hg⟩ : ∃ g, g = w.heap.size := ⟨_, rfl⟩
  have hW' := Lib.hid (And.intro hW hg)
  rw [← hg] at hR
  have hgw : w.heap.size ≤ g := by omega
  clear hW hg
  skip
  replace hb := hb.below hB
  obtain ⟨c1_hR_0, c1_hR_1, c1_hR_2, c1_hR_3⟩ := hR.quad
  go_enter Tryz.func17, Tryz.ntmps17
  have hown := World.ownsRow_lit W0 #[] 0 (base := W0.heap.size) (e := 2) (size := 1) (Nat.le_refl _) (by unfold maxLen; omega) rfl
  obtain ⟨A9, C9, e9, k1, k2, hr⟩ := hb
  injection e9 with e9a e9b e9c
  subst e9a e9c
  obtain ⟨d0, d1, d2, d3⟩ := (hR.alloc (.cells #[] 2)).quad
  go_upto_region 2 with fail
  rw [← hW'.out.1, ← hW'.out.2]
  go_wp2_with (at_builtin; refine wpList_append_any _ rfl (.tmp 12) (.tmp 14) _ rfl W0.heap.size 2 i0 _ 1 8 Tryz.underlying23 hi hz0 hz1 hz2 rfl (by omega) _ 0 [] rfl hown W0.heap.size Ab wd.length Cb (is wd) rfl (hr.alloc (Nat.le_refl _) _) (is_one _) (by unfold maxLen; omega) (by omega) (by simp) ?_; intro v' w' hown' hgrow hat)
  go_ret
  rw [Nat.zero_add, List.nil_append] at hown'
  exact ⟨_, rfl, IsI.of_own hown', hB.trans ((((Below.refl _ W0).alloc (Nat.le_refl _) _).grown hgrow (by simp) (fun g e => by cases e; exact Nat.le_refl _)).mono hB.size)⟩
set_option maxRecDepth 100000 in
set_option maxHeartbeats 8000000 in
theorem rload_coded (v : Value) (n : Nat) (s : Int) (cs : List Nat) (wd : List Int) (w : World) (hn : n < 4) (hs0 : 0 ≤ s) (hs1 : s ≤ 9223372036854775807) (hcl : cs.length ≤ 1000000) (h : IsBk w v n s cs wd) :
    Calls Tryz.prog 17 #[v] w fun e w' => ∃ v', e = .returned v' ∧ IsI w' v' (loadC n s cs) ∧ Below w.heap.size w w' := by
  obtain ⟨i0, hi, hz0, hz1, hz2⟩ := info_parts info_i64
  obtain ⟨a, b, rfl, ha, hb⟩ := h
  obtain ⟨Aa, Ca, rfl, _, _⟩ := id ha.form
  have HBy := Lib.hid ha.by_
  have hB0 := fun w => rbook_any n w
  rw [show bke n = 0 from if_pos (by omega), bkz_nat n hn] at hB0
  have hD := fun w => rden_any n w
  have hlen := bk_len n hn
  have hden := dens n hn
  have hSc : ∀ c, c < 256 → ∀ w, Calls Tryz.prog 34 #[.int .i64 s, .int .i64 (iat (bk n) c), .int .i64 (den (n : Nat))] w fun e w' => e = .returned (.tuple #[.int .i64 (loadZ n s c), .int .i64 (fitE (loadZ n s c))]) ∧ Below w.heap.size w w' := by
    intro c hc w
    obtain ⟨l1, l2, _⟩ := loadZ_le hn hs0 hc
    have hi := bk_in hn c
    have := r08scale_any s (iat (bk n) c) (den (n : Nat)) w (by unfold In64; omega) (by unfold In64; omega) (by omega) (by omega)
    rw [show nearZ (s * iat (bk n) c) (den (n : Nat)).toNat = loadZ n s c from rfl, (fit_in (z := loadZ n s c) (by omega)).1] at this
    exact this
  have hk4 : ((n : Int) == 4) = false := by rw [beq_eq_false_iff_ne]; omega
  have hk5 : decide ((n : Int) = 4) = false := decide_eq_false (by omega)
  generalize den (n : Nat) = D at *
  clear hden hs0 hs1 hb
  obtain ⟨W0, hW, hR, hB⟩ := box1 w 25 #[.int .i64 n, .int .i64 s, .slice Aa cs.length Ca, b]
  obtain ⟨g, hg⟩ : ∃ g, g = w.heap.size := ⟨_, rfl⟩
  have hW' := Lib.hid (And.intro hW hg)
  rw [← hg] at hR
  have hgw : w.heap.size ≤ g := by omega
  clear hW hg
  skip
  replace ha := ha.below hB
  obtain ⟨c1_hR_0, c1_hR_1, c1_hR_2, c1_hR_3⟩ := hR.quad
  go_enter Tryz.func17, Tryz.ntmps17
  go_wp2_with fail
  rw [← hW'.out.1, ← hW'.out.2]
  refine (hB0 _).mono ?_
  rintro e w1 ⟨v1, rfl, hL, b1⟩
  replace ha := ha.below b1
  replace hR := hR.below b1 hR.lt
  replace hB := hB.trans (b1.mono hB.size)
  clear c1_hR_0 c1_hR_1 c1_hR_2 c1_hR_3
  obtain ⟨c2_hR_0, c2_hR_1, c2_hR_2, c2_hR_3⟩ := hR.quad
  obtain ⟨A1, C1, rfl, _, _⟩ := id hL.form
  rw [hlen] at hL ⊢
  obtain ⟨V1, eV, hV, bV1⟩ : ∃ V, V = w1.alloc (.cells #[] 2) ∧ V.ownsRow w1.heap.size 2 1 (.slice (some ⟨w1.heap.size, 0, none⟩) 0 0) 0 (is []) ∧ Below w1.heap.size w1 V := ⟨_, rfl, World.ownsRow_lit w1 #[] 0 (Nat.le_refl _) (by unfold maxLen; omega) rfl, (Below.refl _ _).alloc (Nat.le_refl _) _⟩
  obtain ⟨X, eX⟩ : ∃ X, X = w1.heap.size := ⟨_, rfl⟩
  have EV1 := Lib.hid (And.intro eV eX)
  have hbX : w1.heap.size = X := eX.symm
  rw [hbX] at hV
  have hXs : w1.heap.size ≤ X := by omega
  clear eV
  clear hbX eX
  go_wp2
  rw [← EV1.out.1, ← EV1.out.2]
  clear c2_hR_0 c2_hR_1 c2_hR_2 c2_hR_3
  go_loopw [5, 6] (fun a i wr => ∃ j : Nat, i = .int .i64 j ∧ j ≤ cs.length ∧ wr.ownsRow X 2 1 a j (is (loadC n s (cs.take j))) ∧ Below w1.heap.size w1 wr) (fun _ i _ => cs.length - (intOf i).toNat)
  case atStart => exact ⟨0, rfl, by omega, hV, bV1⟩
  case round =>
    clear hV bV1
    obtain ⟨j, rfl, hj, hown, bX⟩ := hrel
    have hR9 := hR.below bX hR.lt
    obtain ⟨x0, x1, x2, x3⟩ := hR9.quad
    by_cases hlt : j < cs.length
    · obtain ⟨adc, rfl, hc⟩ := (ha.below bX).at_ hlt
      have hc0 := hc
      have hc2 := HBy.out.at_ j
      obtain ⟨adl, rfl, hc3⟩ := hL.at_ (k := yat cs j) (by rw [hlen]; exact hc2)
      have HS := Lib.hid (yat_snoc_take cs j hlt)
      have HSc := hSc _ hc2
      have i0 : (0 : Int) ≤ (j : Int) := by omega
      have i1 : (j : Int) < (cs.length : Int) := by omega
      have i2 : (0 : Int) ≤ (yat cs j : Int) := by omega
      have i3 : (yat cs j : Int) < 256 := by omega
      have hH : ∀ w', Below wr.heap.size wr w' → w'.cell? ⟨g, 0, none⟩ = some (.int .i64 n) ∧ w'.cell? ⟨g, 1, none⟩ = some (.int .i64 s) ∧ w'.cell? ⟨g, 2, none⟩ = some (.slice (some adc) cs.length Ca) ∧ w'.cell? (adc.add j) = some (.int .u8 (yat cs j : Nat)) ∧ w'.cell? (adl.add (yat cs j)) = some (.int .i64 (iat (bk n) (yat cs j))) := fun w' h => ⟨cellB h x0, cellB h x1, cellB h x2, cellB h hc0, cellB h (cellB bX hc3)⟩
      generalize iat (bk n) (yat cs j) = L at *
      generalize hz : loadZ n s (yat cs j) = z at *
      have HZ := Lib.hid hz
      clear hz
      generalize fitE z = ez at *
      generalize yat cs j = c at *
      have b0 := bdrew wr
      go_upto_region 8 with fail
      go_cut [7] (fun q wx => q = .int .i64 z ∧ Below wr.heap.size wr wx)
      case first =>
        go_region_held3 (fun w' => w'.cell? ⟨g, 0, none⟩ = some (.int .i64 n) ∧ w'.cell? ⟨g, 1, none⟩ = some (.int .i64 s) ∧ w'.cell? ⟨g, 2, none⟩ = some (.slice (some adc) cs.length Ca) ∧ w'.cell? (adc.add j) = some (.int .u8 (c : Nat)) ∧ w'.cell? (adl.add c) = some (.int .i64 L))
          (first | exact hH _ b0 | exact hH _ (by assumption))
          (first
            | (go_at_call 20; refine (hD _).mono ?_; rintro x w8 ⟨rfl, rfl⟩)
            | (go_at_call 34; refine (HSc _).mono ?_; rintro x w9 ⟨rfl, b9⟩; have b10 := b0.trans (b9.mono b0.size)))
        all_goals (go_wp2_with fail; go_meet)
        all_goals exact ⟨rfl, b10⟩
      obtain ⟨rfl, bz⟩ := hcut
      have own9 := own_below hown bz
      have bl9 := bX.trans (bz.mono bX.size)
      have hbs : X ≤ wc.heap.size + 1 := by have := bl9.size; have := EV1.out.2; omega
      go_wp2_with (at_builtin; go_must (refine wpList_app1 _ rfl _ _ 23 2 (.int .i64 0) 8 rfl Tryz.underlying23 info_i64 rfl X (.int .i64 z) rfl _ j _ rfl (own9.alloc _) ⟨wc.heap.size, 0, none⟩ rfl (by simp) (by omega) (by omega) (by simp; exact hbs) ?_; intro v' w2 hown' hgrow; obtain ⟨g', cap', rfl⟩ := ownsRow_succ hown'))
      have bl2 := ((bl9.alloc bl9.size (.cells #[.int .i64 z] 2)).grown hgrow (by simp; have := bl9.size; omega) (fun j e => by have := (own9.lt j e).1; have := EV1.out.2; omega))
      refine ⟨⟨j + 1, by go_num, by omega, ?_, bl2⟩, by simp [intOf]; omega⟩
      have e : is (loadC n s (cs.take (j + 1))) = is (loadC n s (cs.take j)) ++ [.int .i64 z] := by rw [HS.out]; unfold loadC; rw [List.map_append, List.map_singleton, HZ.out, is_snoc]
      rw [e]
      exact hown'
    · obtain rfl : j = cs.length := by omega
      rw [List.take_length] at hown
      have hlc : (loadC n s cs).length = cs.length := by unfold loadC; rw [List.length_map]
      rw [← hlc] at hown
      have hI := IsI.of_own hown
      obtain ⟨A5, C5, rfl, _, _⟩ := id hI.form
      go_wp2
      go_ret
      exact ⟨_, rfl, hI, hB.trans (bX.mono hB.size)⟩
end Go.Proofs.YtgcebmgmmhdcpaaGreat
