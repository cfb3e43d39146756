/- Package block: words for blocks; how many; plain blocks; the questions that are asked of each number. -/
import Derived.Test.YtochabikpaoalaaGreatBytes
import Derived.Test.YtochabikpaoalaaGreatApp
import Derived.Test.YtochabikpaoalaaGreatBlockM
import Derived.Test.YtochabikpaoalaaGreatNear10
import Derived.Handy
import Derived.Lib.SliceRun
namespace Go.Proofs.YtochabikpaoalaaGreat
open Go.RowKit
theorem Blk.quad {w : World} {g : Nat} {t : TypeId} {a b c d : Value} (h : Blk w g t #[a, b, c, d]) : w.cell? ⟨g, 0, none⟩ = some a ∧ w.cell? ⟨g, 1, none⟩ = some b ∧ w.cell? ⟨g, 2, none⟩ = some c ∧ w.cell? ⟨g, 3, none⟩ = some d := ⟨h.cell 0, h.cell 1, h.cell 2, h.cell 3⟩
/-- the value is this block -/
def IsBk (w : World) (v : Value) (k s : Int) (cs : List Nat) (wd : List Int) : Prop := ∃ a b, v = .agg #[.int .i64 k, .int .i64 s, a, b] ∧ IsY w a cs ∧ IsI w b wd
theorem IsBk.below {w w' : World} {v : Value} {k s : Int} {cs : List Nat} {wd : List Int} (h : IsBk w v k s cs wd) (hb : Below w.heap.size w w') : IsBk w' v k s cs wd := by
  obtain ⟨a, b, e, h1, h2⟩ := h
  exact ⟨a, b, e, h1.below hb, h2.below hb⟩
theorem IsBk.nil (w : World) : IsBk w (.agg #[.int .i64 0, .int .i64 0, .slice none 0 0, .slice none 0 0]) 0 0 [] [] := ⟨_, _, rfl, IsY.nil w, IsI.nil w⟩
set_option maxRecDepth 100000 in
set_option maxHeartbeats 1000000 in
theorem clone_i64 (v : Value) (l : List Int) (w : World) (h : IsI w v l) (hl : l.length ≤ 17592186044416) :
    Calls Tryz.prog 49 #[v] w fun e w' => ∃ v', e = .returned v' ∧ IsI w' v' l ∧ Fresh w.heap.size v' ∧ Below w.heap.size w w' := by
  obtain ⟨i0, hi, hz0, hz1, hz2⟩ := info_parts info_i64
  have q22 : ∀ (w : World) (a : Option Addr) (n c n' c' : Nat), (binOp .eql 34 (.slice a n c) (.slice none n' c')).run Tryz.prog w = .ok (.bool a.isNone) w := fun w a n c n' c' => Lib.run_eql_slice_nil w _ _ a n c n' c' Tryz.underlying34
  obtain ⟨A, c, rfl, h1, h2, hr⟩ := h
  rcases A with _ | ad
  · have h0 : l.length = 0 := by
      rcases Nat.eq_zero_or_pos l.length with h | h
      · exact h
      · obtain ⟨ad, e, _⟩ := hr.2 h; cases e
    have hl : l = [] := List.eq_nil_of_length_eq_zero h0
    subst hl
    go_enter Tryz.func49, Tryz.ntmps49
    go_wp2
    go_ret
    exact ⟨_, rfl, IsI.nil w, fun g e => by simp [Value.ownBlock] at e, Below.refl _ _⟩
  · have hown := World.ownsRow_lit w #[] 0 (base := w.heap.size) (e := 2) (size := 1) (Nat.le_refl _) (by unfold maxLen; omega) rfl
    go_enter Tryz.func49, Tryz.ntmps49
    go_wp2_with (at_builtin; refine wpList_append_any _ rfl (.tmp 5) (.tmp 6) _ rfl w.heap.size 2 i0 _ 1 8 Tryz.underlying34 hi hz0 hz1 hz2 rfl (by omega) _ 0 [] rfl hown w.heap.size (some ad) l.length c (is l) rfl (hr.alloc (Nat.le_refl _) _) (is_one _) (by unfold maxLen; omega) (by omega) (by simp) ?_; intro v' w' hown' hgrow hat)
    go_ret
    rw [Nat.zero_add, List.nil_append] at hown'
    exact ⟨_, rfl, IsI.of_own hown', Fresh.of_own hown', ((Below.refl _ w).alloc (Nat.le_refl _) _).grown hgrow (by simp) (fun g e => by cases e; exact Nat.le_refl _)⟩
set_option maxHeartbeats 1000000 in
theorem blen_any (v : Value) (k s : Int) (cs : List Nat) (wd : List Int) (w : World) (h : IsBk w v k s cs wd) (h1 : cs.length ≤ 281474976710656) (h2 : wd.length ≤ 17592186044416) :
    Calls Tryz.prog 28 #[v] w fun e w' => e = .returned (.int .i64 ((cs.length : Int) + wd.length)) ∧ Below w.heap.size w w' := by
  obtain ⟨a, b, rfl, ha, hb⟩ := h
  obtain ⟨Aa, Ca, rfl, _, _⟩ := ha.form
  obtain ⟨Ab, Cb, rfl, _, _⟩ := hb.form
  have HB := Lib.hid ((Below.refl w.heap.size w).alloc (Nat.le_refl _) (.cells #[.int .i64 k, .int .i64 s, .slice Aa cs.length Ca, .slice Ab wd.length Cb] 43))
  generalize cs.length = n at *
  generalize wd.length = m at *
  have k1 : (n : Int) ≤ 281474976710656 := by omega
  have k2 : (m : Int) ≤ 17592186044416 := by omega
  go_enter Tryz.func28, Tryz.ntmps28
  go_wp2
  go_ret
  exact ⟨rfl, HB.out⟩
set_option maxHeartbeats 1000000 in
theorem odd_any (n : Int) (C : Nat) (sg : Bool) (w : World) (h : Blk w C 4 #[.bool sg]) :
    Calls Tryz.prog 47 #[.int .i64 n, .pointer (some ⟨C, 0, none⟩)] w fun e w' => e = .returned (.bool (oddB sg n)) ∧ w = w' := by
  have hc := h.cells1
  unfold oddB
  by_cases h1 : n = -9223372036854775808
  · have e1 : (n == -9223372036854775808) = true := by simpa using h1
    have e2 : decide (n = -9223372036854775808) = true := by simpa using h1
    rw [e2]
    clear h1
    go_enter Tryz.func47, Tryz.ntmps47
    go_wp2
    go_ret
    exact ⟨rfl, rfl⟩
  · have e1 : (n == -9223372036854775808) = false := by simpa using h1
    have e2 : decide (n = -9223372036854775808) = false := by simpa using h1
    rw [e2]
    clear h1
    by_cases h2 : n < 0
    · have e3 : decide (n < 0) = true := decide_eq_true h2
      rw [e3]
      clear h2
      go_enter Tryz.func47, Tryz.ntmps47
      go_wp2
      go_ret
      exact ⟨by simp, rfl⟩
    · have e3 : decide (n < 0) = false := decide_eq_false h2
      rw [e3]
      clear h2
      go_enter Tryz.func47, Tryz.ntmps47
      go_wp2
      go_ret
      exact ⟨rfl, rfl⟩
theorem any_take {α : Type} {l : List α} {k : Nat} {p : α → Bool} {y : α} (h : (l.take k).any p = false) (e : l.take (k + 1) = l.take k ++ [y]) (hp : p y = false) : (l.take (k + 1)).any p = false := by
  rw [e, List.any_append, h]; simp [hp]
set_option maxHeartbeats 1000000 in
theorem indexOdd_any (v : Value) (l : List Int) (C : Nat) (sg : Bool) (w : World) (h : IsI w v l) (hC : Blk w C 4 #[.bool sg]) :
    Calls Tryz.prog 59 #[v, .func (.func 47) #[] #[.pointer (some ⟨C, 0, none⟩)]] w fun e w' => (∃ n : Int, e = .returned (.int .i64 n) ∧ decide (0 ≤ n) = l.any (oddB sg)) ∧ w = w' := by
  obtain ⟨A, c, rfl, hc1, hc2, hr⟩ := h
  obtain ⟨r, hr0⟩ : ∃ r, r = l.any (oddB sg) := ⟨_, rfl⟩
  rw [← hr0]
  have HR := Lib.hid hr0
  clear hr0
  have hO := fun n => odd_any n C sg w hC
  go_enter Tryz.func59, Tryz.ntmps59
  go_wp2
  go_loop [8] (fun i => ∃ k : Nat, k ≤ l.length ∧ i = .int .i64 k ∧ Hid ((l.take k).any (oddB sg) = false)) (fun i => l.length - (intOf i).toNat)
  case atStart => exact ⟨0, by omega, rfl, Lib.hid (by simp)⟩
  case round =>
    obtain ⟨k, hk, rfl, hno⟩ := hrel
    by_cases hlt : k < l.length
    · obtain ⟨ad, rfl, _, hx⟩ := is_cell hr hlt
      have HS := Lib.hid (iat_snoc_take l k hlt)
      have HM := Lib.hid (iat_mem hlt)
      generalize iat l k = y at *
      have hOy := hO y
      cases hp : oddB sg y
      · have HS2 := Lib.hid (any_take hno.out HS.out hp)
        rw [hp] at hOy
        go_wp2_with fail
        refine hOy.mono ?_
        rintro e w1 ⟨rfl, rfl⟩
        go_wp2
        go_round
        case rel => exact ⟨k + 1, by omega, by go_num, HS2⟩
        case measure => simp [intOf]; omega
      · have HT := Lib.hid (show l.any (oddB sg) = true from List.any_eq_true.2 ⟨y, HM.out, hp⟩)
        rw [hp] at hOy
        go_wp2_with fail
        refine hOy.mono ?_
        rintro e w1 ⟨rfl, rfl⟩
        go_wp2
        go_ret
        exact ⟨⟨k, rfl, by rw [HR.out, HT.out]; simp⟩, rfl⟩
    · obtain rfl : k = l.length := by omega
      have HF := Lib.hid (show l.any (oddB sg) = false by have := hno.out; rwa [List.take_length] at this)
      go_wp2
      go_ret
      exact ⟨⟨-1, rfl, by rw [HR.out, HF.out]; rfl⟩, rfl⟩
set_option maxHeartbeats 1000000 in
theorem containsOdd_any (v : Value) (l : List Int) (C : Nat) (sg : Bool) (w : World) (h : IsI w v l) (hC : Blk w C 4 #[.bool sg]) :
    Calls Tryz.prog 48 #[v, .func (.func 47) #[] #[.pointer (some ⟨C, 0, none⟩)]] w fun e w' => e = .returned (.bool (l.any (oddB sg))) ∧ w = w' := by
  have hI := fun w h hC => indexOdd_any v l C sg w h hC
  obtain ⟨A, c, rfl, _⟩ := id h
  generalize l.any (oddB sg) = r at *
  go_enter Tryz.func48, Tryz.ntmps48
  go_wp2_with fail
  refine (hI _ h hC).mono ?_
  rintro e w1 ⟨⟨n, rfl, hn⟩, rfl⟩
  go_wp2
  go_ret
  exact ⟨rfl, rfl⟩
set_option maxHeartbeats 1000000 in
theorem other_any (n m : Nat) (C : Nat) (w : World) (h : Blk w C 5 #[.int .u8 m]) :
    Calls Tryz.prog 166 #[.int .u8 n, .pointer (some ⟨C, 0, none⟩)] w fun e w' => e = .returned (.bool (!decide (n = m))) ∧ w = w' := by
  have hc := h.cells1
  have e : (!decide (n = m)) = ((n : Int) != (m : Int)) := by
    by_cases h : n = m
    · subst h; simp
    · rw [decide_eq_false h]; symm; simp only [Bool.not_false, bne_iff_ne]; omega
  rw [e]
  clear e
  go_enter Tryz.func166, Tryz.ntmps166
  go_wp2
  go_ret
  exact ⟨rfl, rfl⟩
set_option maxHeartbeats 1000000 in
theorem indexOther_any (v : Value) (l : List Nat) (C m : Nat) (w : World) (h : IsY w v l) (hC : Blk w C 5 #[.int .u8 m]) :
    Calls Tryz.prog 170 #[v, .func (.func 166) #[] #[.pointer (some ⟨C, 0, none⟩)]] w fun e w' => (∃ n : Int, e = .returned (.int .i64 n) ∧ decide (0 ≤ n) = l.any (fun n => !decide (n = m))) ∧ w = w' := by
  obtain ⟨A, c, rfl, hc1, hc2, _, hr⟩ := h
  obtain ⟨r, hr0⟩ : ∃ r, r = l.any (fun n => !decide (n = m)) := ⟨_, rfl⟩
  rw [← hr0]
  have HR := Lib.hid hr0
  clear hr0
  have hO := fun n => other_any n m C w hC
  go_enter Tryz.func170, Tryz.ntmps170
  go_wp2
  go_loop [8] (fun i => ∃ k : Nat, k ≤ l.length ∧ i = .int .i64 k ∧ Hid ((l.take k).any (fun n => !decide (n = m)) = false)) (fun i => l.length - (intOf i).toNat)
  case atStart => exact ⟨0, by omega, rfl, Lib.hid (by simp)⟩
  case round =>
    obtain ⟨k, hk, rfl, hno⟩ := hrel
    by_cases hlt : k < l.length
    · obtain ⟨ad, rfl, _, hx⟩ := y_cell hr hlt
      have HS := Lib.hid (yat_snoc_take l k hlt)
      have HM := Lib.hid (yat_mem hlt)
      generalize yat l k = y at *
      have hOy := hO y
      cases hp : (!decide (y = m))
      · have HS2 := Lib.hid (any_take (p := fun n => !decide (n = m)) hno.out HS.out hp)
        rw [hp] at hOy
        clear hp
        go_wp2_with fail
        refine hOy.mono ?_
        rintro e w1 ⟨rfl, rfl⟩
        go_wp2
        go_round
        case rel => exact ⟨k + 1, by omega, by go_num, HS2⟩
        case measure => simp [intOf]; omega
      · have HT := Lib.hid (show l.any (fun n => !decide (n = m)) = true from List.any_eq_true.2 ⟨y, HM.out, hp⟩)
        rw [hp] at hOy
        clear hp
        go_wp2_with fail
        refine hOy.mono ?_
        rintro e w1 ⟨rfl, rfl⟩
        go_wp2
        go_ret
        exact ⟨⟨k, rfl, by rw [HR.out, HT.out]; simp⟩, rfl⟩
    · obtain rfl : k = l.length := by omega
      have HF := Lib.hid (show l.any (fun n => !decide (n = m)) = false by have := hno.out; rwa [List.take_length] at this)
      go_wp2
      go_ret
      exact ⟨⟨-1, rfl, by rw [HR.out, HF.out]; rfl⟩, rfl⟩
set_option maxHeartbeats 1000000 in
theorem containsOther_any (v : Value) (l : List Nat) (C m : Nat) (w : World) (h : IsY w v l) (hC : Blk w C 5 #[.int .u8 m]) :
    Calls Tryz.prog 165 #[v, .func (.func 166) #[] #[.pointer (some ⟨C, 0, none⟩)]] w fun e w' => e = .returned (.bool (l.any (fun n => !decide (n = m)))) ∧ w = w' := by
  have hI := fun w h hC => indexOther_any v l C m w h hC
  obtain ⟨A, c, rfl, _⟩ := id h
  generalize l.any (fun n => !decide (n = m)) = r at *
  go_enter Tryz.func165, Tryz.ntmps165
  go_wp2_with fail
  refine (hI _ h hC).mono ?_
  rintro e w1 ⟨⟨n, rfl, hn⟩, rfl⟩
  go_wp2
  go_ret
  exact ⟨rfl, rfl⟩
set_option maxHeartbeats 2000000 in
theorem pright_any (v : Value) (k s : Int) (cs : List Nat) (wd : List Int) (w : World) (h : IsBk w v k s cs wd) :
    Calls Tryz.prog 159 #[v] w fun e w' => e = .returned (.bool (decide (s = 0) && (decide (cs = []) && !wd.contains (-9223372036854775808)))) ∧ Below w.heap.size w w' := by
  obtain ⟨a, b, rfl, ha, hb⟩ := h
  have hI := fun w h => contains_i64 b wd (-9223372036854775808) w h
  obtain ⟨Aa, Ca, rfl, _, _⟩ := ha.form
  obtain ⟨Ab, Cb, rfl, _, _⟩ := id hb.form
  have e0 : wd.contains (-9223372036854775808) = decide (-9223372036854775808 ∈ wd) := by rw [List.contains_eq_mem]
  rw [e0]
  clear e0
  generalize decide (-9223372036854775808 ∈ wd) = r at *
  have hN : decide (cs = []) = ((cs.length : Int) == 0) := by cases cs <;> simp; omega
  rw [hN]
  obtain ⟨W0, hW, hR, hB⟩ := box1 w 72 #[.int .i64 k, .int .i64 s, .slice Aa cs.length Ca, .slice Ab wd.length Cb]
  obtain ⟨g, hg⟩ : ∃ g, g = w.heap.size := ⟨_, rfl⟩
  have hW' := Lib.hid (And.intro hW hg)
  rw [← hg] at hR
  clear hW hg
  replace hb := hb.below hB
  obtain ⟨c0, c1, c2, c3⟩ := hR.quad
  by_cases h1 : s = 0
  · have e1 : (s == 0) = true := by simpa using h1
    have e2 : decide (s = 0) = true := by simpa using h1
    rw [e2]
    by_cases h2 : cs.length = 0
    · have e3 : ((cs.length : Int) == 0) = true := by simpa using h2
      have e4 : cs = [] := List.eq_nil_of_length_eq_zero h2
      rw [e3]
      clear h1 h2 e4
      go_enter Tryz.func159, Tryz.ntmps159
      go_wp2_with fail
      rw [← hW'.out.1, ← hW'.out.2]
      refine (hI _ hb).mono ?_
      rintro e w1 ⟨rfl, rfl⟩
      go_wp2
      go_ret
      exact ⟨by simp, hB⟩
    · have e3 : ((cs.length : Int) == 0) = false := by simpa using h2
      rw [e3]
      clear h1 h2
      go_enter Tryz.func159, Tryz.ntmps159
      go_wp2
      rw [← hW'.out.1]
      go_ret
      exact ⟨rfl, hB⟩
  · have e1 : (s == 0) = false := by simpa using h1
    have e2 : decide (s = 0) = false := by simpa using h1
    rw [e2]
    clear h1
    go_enter Tryz.func159, Tryz.ntmps159
    go_wp2
    rw [← hW'.out.1]
    go_ret
    exact ⟨rfl, hB⟩
set_option maxHeartbeats 1000000 in
theorem pload_any (v : Value) (k s : Int) (cs : List Nat) (wd : List Int) (w : World) (h : IsBk w v k s cs wd) (hl : wd.length ≤ 17592186044416) :
    Calls Tryz.prog 158 #[v] w fun e w' => ∃ v', e = .returned v' ∧ IsI w' v' wd ∧ Below w.heap.size w w' := by
  obtain ⟨a, b, rfl, ha, hb⟩ := h
  have hI := fun w h => clone_i64 b wd w h hl
  obtain ⟨W0, hW, hR, hB⟩ := box1 w 72 #[.int .i64 k, .int .i64 s, a, b]
  obtain ⟨g, hg⟩ : ∃ g, g = w.heap.size := ⟨_, rfl⟩
  have hW' := Lib.hid (And.intro hW hg)
  rw [← hg] at hR
  clear hW hg
  replace hb := hb.below hB
  obtain ⟨c0, c1, c2, c3⟩ := hR.quad
  go_enter Tryz.func158, Tryz.ntmps158
  go_wp2_with fail
  rw [← hW'.out.1, ← hW'.out.2]
  refine (hI _ hb).mono ?_
  rintro e w1 ⟨v1, rfl, h1, _, b1⟩
  obtain ⟨A1, C1, rfl, _⟩ := h1.form
  go_wp2
  go_ret
  exact ⟨_, rfl, h1, hB.trans (b1.mono hB.size)⟩
end Go.Proofs.YtochabikpaoalaaGreat
