/- Package mom: one place's step. -/
import Derived.Test.YtbnnonmkkkhepaaMom1
import Derived.Deep.RegionHeld3
import Derived.Deep.DrawnRows
namespace Go.Proofs.Ytbnnonmkkkhepaa
open Go.RowKit
attribute [local go_sem ↓] Go.wp_at_zero Go.wp_at_succ

/-- the block of a 'work': its reckoner, and its Mom -/
def Wk (w : World) (G r : Nat) (lr mu wd : Int) (nest : Bool) : Prop := w.heap[G]? = some (.cells #[.pointer (some ⟨r, 0, none⟩), .int .i64 lr, .int .i64 mu, .int .i64 wd, .bool nest] 55 (0, 0))
section
variable {w w' : World} {G r : Nat} {lr mu wd : Int} {nest : Bool}
theorem Wk.lt (h : Wk w G r lr mu wd nest) : G < w.heap.size := by
  rcases Nat.lt_or_ge G w.heap.size with hlt | hge
  · exact hlt
  · unfold Wk at h; rw [Array.getElem?_eq_none hge] at h; cases h
theorem Wk.cells (h : Wk w G r lr mu wd nest) : w.cell? ⟨G, 0, none⟩ = some (.pointer (some ⟨r, 0, none⟩)) ∧ w.cell? ⟨G, 1, none⟩ = some (.int .i64 lr) ∧ w.cell? ⟨G, 2, none⟩ = some (.int .i64 mu) ∧ w.cell? ⟨G, 3, none⟩ = some (.int .i64 wd) :=
  ⟨cell_of_row w G 0 _ _ _ h, cell_of_row w G 1 _ _ _ h, cell_of_row w G 2 _ _ _ h, cell_of_row w G 3 _ _ _ h⟩
theorem Wk.nest_ (h : Wk w G r lr mu wd nest) : w.cell? ⟨G, 4, none⟩ = some (.bool nest) := cell_of_row w G 4 _ _ _ h
theorem Wk.only (h : Wk w G r lr mu wd nest) (hg : w.grownBy w' (some r)) (hne : G ≠ r) : Wk w' G r lr mu wd nest := (hg.block G h.lt (fun e => hne (by injection e))).trans h
end
theorem only_transD {a b c : World} {row : Option Nat} (h : a.grownBy b row) (k : b.drew.grownBy c row) : a.grownBy c row :=
  ⟨k.os.trans h.os, k.tape.trans h.tape, k.output.trans h.output, Nat.le_trans h.size k.size, fun i hi hn => (k.block i (Nat.lt_of_lt_of_le hi h.size) hn).trans (h.block i hi hn)⟩
theorem joinE0 (x : Int) : joinE 0 x = x := rfl
set_option maxRecDepth 100000 in
set_option maxHeartbeats 4000000 in
theorem step_any (r f : Nat) (e lr mu wd : Int) (nest : Bool) (W V g : Int) (w : World) (hf : f ≤ 40) (hr : Rk w r f e)
    (hlr : In64 lr) (hmu : In64 mu) (hwd : In64 wd) (hW : In64 W) (hV : In64 V) (hg : In64 g) :
    Calls Try.prog 24 #[.agg #[.pointer (some ⟨r, 0, none⟩), .int .i64 lr, .int .i64 mu, .int .i64 wd, .bool nest], .int .i64 W, .int .i64 V, .int .i64 g] w fun x w' =>
      x = .returned (.tuple #[.int .i64 (stW lr f W (stU nest mu f (stD wd f W g) (stV mu f V (stD wd f W g)))), .int .i64 (stV mu f V (stD wd f W g))]) ∧ Rk w' r f (joinE e (stE lr mu wd nest f W V g)) ∧ w.grownBy w' (some r) := by
  obtain ⟨G, hG⟩ : ∃ G, G = w.heap.size := ⟨_, rfl⟩
  have hGr : G ≠ r := by have := hr.lt; omega
  have hm1 := fun w h => kmul_any r f e wd W w hf hwd hW h
  obtain ⟨x1, hx1⟩ : ∃ x, x = fitV (mulZ wd W f) := ⟨_, rfl⟩
  obtain ⟨e1, he1⟩ : ∃ x, x = joinE e (fitE (mulZ wd W f)) := ⟨_, rfl⟩
  rw [← hx1, ← he1] at hm1
  have i1 : In64 x1 := by rw [hx1]; exact fitV_in _
  have ha1 := fun w h => kadd_any r f e1 g x1 w hg i1 h
  obtain ⟨d, hd⟩ : ∃ x, x = fitV (g + x1) := ⟨_, rfl⟩
  obtain ⟨e2, he2⟩ : ∃ x, x = joinE e1 (fitE (g + x1)) := ⟨_, rfl⟩
  rw [← hd, ← he2] at ha1
  have i2 : In64 d := by rw [hd]; exact fitV_in _
  have hm2 := fun w h => kmul_any r f e2 mu V w hf hmu hV h
  obtain ⟨x2, hx2⟩ : ∃ x, x = fitV (mulZ mu V f) := ⟨_, rfl⟩
  obtain ⟨e3, he3⟩ : ∃ x, x = joinE e2 (fitE (mulZ mu V f)) := ⟨_, rfl⟩
  rw [← hx2, ← he3] at hm2
  have i3 : In64 x2 := by rw [hx2]; exact fitV_in _
  have ha2 := fun w h => kadd_any r f e3 x2 d w i3 i2 h
  obtain ⟨vel, hvel⟩ : ∃ x, x = fitV (x2 + d) := ⟨_, rfl⟩
  obtain ⟨e4, he4⟩ : ∃ x, x = joinE e3 (fitE (x2 + d)) := ⟨_, rfl⟩
  rw [← hvel, ← he4] at ha2
  have i4 : In64 vel := by rw [hvel]; exact fitV_in _
  have hsd : stD wd f W g = d := by rw [hd, hx1]; rfl
  have hsv : stV mu f V d = vel := by rw [hvel, hx2]; rfl
  rw [hsd, hsv]
  have HD := Lib.hid (And.intro hx1 (And.intro he1 (And.intro hd (And.intro he2 (And.intro hx2 (And.intro he3 (And.intro hvel he4)))))))
  clear hx1 he1 hd he2 hx2 he3 hvel he4 hsd hsv
  go_enter Try.func24, Try.ntmps24
  go_wp2
  obtain ⟨W0, hW0⟩ : ∃ W0, W0 = w.alloc (.cells #[.pointer (some ⟨r, 0, none⟩), .int .i64 lr, .int .i64 mu, .int .i64 wd, .bool nest] 55) := ⟨_, rfl⟩
  have hk0 : Wk W0 G r lr mu wd nest := by rw [hW0, hG]; exact heap_alloc_new w _
  have hr0 : Rk W0 r f e := by rw [hW0]; exact hr.alloc _
  have g0 : w.grownBy W0 (some r) := by rw [hW0]; exact only_of_below ((Below.refl _ w).alloc (Nat.le_refl _) _) _
  rw [← hW0, ← hG]
  have HG := Lib.hid hG
  clear hW0 hG hr

  go_region_held3 (fun w' => w'.cell? ⟨G, 0, none⟩ = some (.pointer (some ⟨r, 0, none⟩)) ∧ w'.cell? ⟨G, 1, none⟩ = some (.int .i64 lr) ∧ w'.cell? ⟨G, 2, none⟩ = some (.int .i64 mu) ∧ w'.cell? ⟨G, 3, none⟩ = some (.int .i64 wd)) (exact Wk.cells (by assumption))
    (first
      | (go_at_call 38; refine (hm1 _ ?_).mono ?_; exact hr0; rintro x w1 ⟨rfl, hr1, g1⟩; have hk1 := Wk.only (by assumption) g1 hGr)
      | (go_at_call 37; refine (ha1 _ ?_).mono ?_; exact hr1; rintro x w2 ⟨rfl, hr2, g2⟩; have hk2 := Wk.only (by assumption) g2 hGr))
  go_wp2
  go_region_held3 (fun w' => w'.cell? ⟨G, 0, none⟩ = some (.pointer (some ⟨r, 0, none⟩)) ∧ w'.cell? ⟨G, 1, none⟩ = some (.int .i64 lr) ∧ w'.cell? ⟨G, 2, none⟩ = some (.int .i64 mu) ∧ w'.cell? ⟨G, 3, none⟩ = some (.int .i64 wd)) (exact Wk.cells (by assumption))
    (first
      | (go_at_call 38; refine (hm2 _ ?_).mono ?_; exact hr2; rintro x w3 ⟨rfl, hr3, g3⟩; have hk3 := Wk.only (by assumption) g3 hGr)
      | (go_at_call 37; refine (ha2 _ ?_).mono ?_; exact hr3; rintro x w4 ⟨rfl, hr4, g4⟩; have hk4 := Wk.only (by assumption) g4 hGr))
  have hn := hk4.nest_
  cases nest
  · have hm4 := fun w h => kmul_any r f e4 lr vel w hf hlr i4 h
    obtain ⟨x4, hx4⟩ : ∃ x, x = fitV (mulZ lr vel f) := ⟨_, rfl⟩
    obtain ⟨e7, he7⟩ : ∃ x, x = joinE e4 (fitE (mulZ lr vel f)) := ⟨_, rfl⟩
    rw [← hx4, ← he7] at hm4
    have i7 : In64 x4 := by rw [hx4]; exact fitV_in _
    have hs4 := fun w h => ksub_any r f e7 W x4 w hW i7 h
    obtain ⟨w', hw'⟩ : ∃ x, x = fitV (W - x4) := ⟨_, rfl⟩
    obtain ⟨e8, he8⟩ : ∃ x, x = joinE e7 (fitE (W - x4)) := ⟨_, rfl⟩
    rw [← hw', ← he8] at hs4
    have HE := Lib.hid (And.intro hx4 (And.intro he7 (And.intro hw' he8)))
    clear hx4 he7 hw' he8
    go_wp2
    go_region_held3 (fun w' => w'.cell? ⟨G, 0, none⟩ = some (.pointer (some ⟨r, 0, none⟩)) ∧ w'.cell? ⟨G, 1, none⟩ = some (.int .i64 lr) ∧ w'.cell? ⟨G, 2, none⟩ = some (.int .i64 mu) ∧ w'.cell? ⟨G, 3, none⟩ = some (.int .i64 wd)) (exact Wk.cells (by assumption))
      (first
        | (go_at_call 38; refine (hm4 _ ?_).mono ?_; exact hr4; rintro x w5 ⟨rfl, hr5, g5⟩; have hk5 := Wk.only (by assumption) g5 hGr)
        | (go_at_call 39; refine (hs4 _ ?_).mono ?_; exact hr5; rintro x w6 ⟨rfl, hr6, g6⟩; have hk6 := Wk.only (by assumption) g6 hGr))
    go_wp2
    go_ret2
    obtain ⟨f1, f2, f3, f4, f5, f6, f7, f8⟩ := HD.out
    obtain ⟨f9, f10, f11, f12⟩ := HE.out
    refine ⟨?_, ?_, only_transD (only_transD (only_transD g0 (only_trans g1 (only_trans g2 (only_refl _ _)))) (only_trans g3 (only_trans g4 (only_refl _ _)))) (only_trans g5 g6)⟩
    · rw [show stW lr f W (stU false mu f d vel) = w' from by rw [f11, f9]; rfl]; rfl
    · have : e8 = joinE e (stE lr mu wd false f W V g) := by
        clear f11
        subst f12 f10 f9 f8 f7 f6 f5 f4 f3 f2 f1
        simp [stE, stD, stV, stU, joinE_assoc, joinE0]
      rw [← this]; exact hr6
  · have hm3 := fun w h => kmul_any r f e4 mu vel w hf hmu i4 h
    obtain ⟨x3, hx3⟩ : ∃ x, x = fitV (mulZ mu vel f) := ⟨_, rfl⟩
    obtain ⟨e5, he5⟩ : ∃ x, x = joinE e4 (fitE (mulZ mu vel f)) := ⟨_, rfl⟩
    rw [← hx3, ← he5] at hm3
    have i5 : In64 x3 := by rw [hx3]; exact fitV_in _
    have ha3 := fun w h => kadd_any r f e5 d x3 w i2 i5 h
    obtain ⟨u, hu⟩ : ∃ x, x = fitV (d + x3) := ⟨_, rfl⟩
    obtain ⟨e6, he6⟩ : ∃ x, x = joinE e5 (fitE (d + x3)) := ⟨_, rfl⟩
    rw [← hu, ← he6] at ha3
    have i6 : In64 u := by rw [hu]; exact fitV_in _
    have HF := Lib.hid (And.intro hx3 (And.intro he5 (And.intro hu he6)))
    clear hx3 he5 hu he6
    have hm4 := fun w h => kmul_any r f e6 lr u w hf hlr i6 h
    obtain ⟨x4, hx4⟩ : ∃ x, x = fitV (mulZ lr u f) := ⟨_, rfl⟩
    obtain ⟨e7, he7⟩ : ∃ x, x = joinE e6 (fitE (mulZ lr u f)) := ⟨_, rfl⟩
    rw [← hx4, ← he7] at hm4
    have i7 : In64 x4 := by rw [hx4]; exact fitV_in _
    have hs4 := fun w h => ksub_any r f e7 W x4 w hW i7 h
    obtain ⟨w', hw'⟩ : ∃ x, x = fitV (W - x4) := ⟨_, rfl⟩
    obtain ⟨e8, he8⟩ : ∃ x, x = joinE e7 (fitE (W - x4)) := ⟨_, rfl⟩
    rw [← hw', ← he8] at hs4
    have HE := Lib.hid (And.intro hx4 (And.intro he7 (And.intro hw' he8)))
    clear hx4 he7 hw' he8
    go_wp2
    go_region_held3 (fun w' => w'.cell? ⟨G, 0, none⟩ = some (.pointer (some ⟨r, 0, none⟩)) ∧ w'.cell? ⟨G, 1, none⟩ = some (.int .i64 lr) ∧ w'.cell? ⟨G, 2, none⟩ = some (.int .i64 mu) ∧ w'.cell? ⟨G, 3, none⟩ = some (.int .i64 wd)) (exact Wk.cells (by assumption))
      (first
        | (go_at_call 38; refine (hm3 _ ?_).mono ?_; exact hr4; rintro x w5 ⟨rfl, hr5, g5⟩; have hk5 := Wk.only (by assumption) g5 hGr)
        | (go_at_call 37; refine (ha3 _ ?_).mono ?_; exact hr5; rintro x w6 ⟨rfl, hr6, g6⟩; have hk6 := Wk.only (by assumption) g6 hGr))
    go_wp2
    go_region_held3 (fun w' => w'.cell? ⟨G, 0, none⟩ = some (.pointer (some ⟨r, 0, none⟩)) ∧ w'.cell? ⟨G, 1, none⟩ = some (.int .i64 lr) ∧ w'.cell? ⟨G, 2, none⟩ = some (.int .i64 mu) ∧ w'.cell? ⟨G, 3, none⟩ = some (.int .i64 wd)) (exact Wk.cells (by assumption))
      (first
        | (go_at_call 38; refine (hm4 _ ?_).mono ?_; exact hr6; rintro x w7 ⟨rfl, hr7, g7⟩; have hk7 := Wk.only (by assumption) g7 hGr)
        | (go_at_call 39; refine (hs4 _ ?_).mono ?_; exact hr7; rintro x w8 ⟨rfl, hr8, g8⟩; have hk8 := Wk.only (by assumption) g8 hGr))
    go_wp2
    go_ret2
    obtain ⟨f1, f2, f3, f4, f5, f6, f7, f8⟩ := HD.out
    obtain ⟨f9, f10, f11, f12⟩ := HE.out
    obtain ⟨k1, k2, k3, k4⟩ := HF.out
    refine ⟨?_, ?_, only_transD (only_transD (only_transD (only_transD g0 (only_trans g1 (only_trans g2 (only_refl _ _)))) (only_trans g3 (only_trans g4 (only_refl _ _)))) (only_trans g5 (only_trans g6 (only_refl _ _)))) (only_trans g7 g8)⟩
    · rw [show stW lr f W (stU true mu f d vel) = w' from by rw [f11, f9, k3, k1]; rfl]; rfl
    · have : e8 = joinE e (stE lr mu wd true f W V g) := by
        clear f11
        subst f12 f10 f9 k4 k3 k2 k1 f8 f7 f6 f5 f4 f3 f2 f1
        simp [stE, stD, stV, stU, joinE_assoc]
      rw [← this]; exact hr8
end Go.Proofs.Ytbnnonmkkkhepaa
