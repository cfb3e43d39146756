/- A part of the proof of: A bound a step on is no less than what it is exactly, and less than the next of the grid; greater ones come of greater ones; around a number lies what is so near, and nothing else. No conditions: every input. -/
import Derived.Test.YtdnjdglekifhpaaGreatTbb
namespace Go.Proofs.YtdnjdglekifhpaaGreat
open Go.RowKit
attribute [local go_sem ↓] Go.wp_at_zero Go.wp_at_succ
set_option maxRecDepth 100000 in
set_option maxHeartbeats 8000000 in
theorem TrackUp_u1a (s1 s2 s3 : Bool) (A1 D1 A2 D2 A3 D3 : Option Addr) (C1 E1 C2 E2 C3 E3 : Nat) (l1 m1 l2 m2 l3 m3 : List Nat) (beta f near : Int) (w : World) (r1 : RawQ w s1 (.slice A1 l1.length C1) (.slice D1 m1.length E1) l1 m1) (r2 : RawQ w s2 (.slice A2 l2.length C2) (.slice D2 m2.length E2) l2 m2) (r3 : RawQ w s3 (.slice A3 l3.length C3) (.slice D3 m3.length E3) l3 m3) (_hb : In64 beta) (_hnr : In64 near)  (f1 : fewQ s1 l1 m1 3 = false) :
    Calls Tryz.prog 4 #[.agg #[.bool s1, .slice A1 l1.length C1, .slice D1 m1.length E1, .bool s2, .slice A2 l2.length C2, .slice D2 m2.length E2, .bool s3, .slice A3 l3.length C3, .slice D3 m3.length E3], .agg #[.int .i64 beta, .int .i64 f], .int .i64 near] w fun e w' => e = .returned (.bool true) ∧ Below w.heap.size w w' := by
  have hA := fun w => alive20_any w
  obtain ⟨p1, t1⟩ := r1
  have hF1 := fun w h1 h2 => rfew5_any s1 (.slice A1 l1.length C1) (.slice D1 m1.length E1) l1 m1 3 w h1 h2 (by omega)
  obtain ⟨p2, t2⟩ := r2
  have hF2 := fun w h1 h2 => rfew5_any s2 (.slice A2 l2.length C2) (.slice D2 m2.length E2) l2 m2 3 w h1 h2 (by omega)
  obtain ⟨p3, t3⟩ := r3
  have hF3 := fun w h1 h2 => rfew5_any s3 (.slice A3 l3.length C3) (.slice D3 m3.length E3) l3 m3 3 w h1 h2 (by omega)
  rw [f1] at hF1
  clear _hb _hnr f1
  obtain ⟨g, hg⟩ : ∃ g, g = w.heap.size := ⟨_, rfl⟩
  obtain ⟨Y0, eY0, hL, bY0⟩ := box1 w 52 #[.bool s1, .slice A1 l1.length C1, .slice D1 m1.length E1, .bool s2, .slice A2 l2.length C2, .slice D2 m2.length E2, .bool s3, .slice A3 l3.length C3, .slice D3 m3.length E3]
  have zY0 : Y0.heap.size = g + 1 := by rw [eY0, World.size_alloc, ← hg]
  rw [← hg] at hL
  replace p1 := p1.below bY0
  replace t1 := t1.below bY0
  replace p2 := p2.below bY0
  replace t2 := t2.below bY0
  replace p3 := p3.below bY0
  replace t3 := t3.below bY0
  have hB := bY0
  obtain ⟨Y1, eY1, hW, bY1⟩ := box1 Y0 34 #[.int .i64 beta, .int .i64 f]
  have zY1 : Y1.heap.size = g + 1 + 1 := by rw [eY1, World.size_alloc, zY0]
  rw [zY0] at hW
  replace hL := hL.below bY1 hL.lt
  replace p1 := p1.below bY1
  replace t1 := t1.below bY1
  replace p2 := p2.below bY1
  replace t2 := t2.below bY1
  replace p3 := p3.below bY1
  replace t3 := t3.below bY1
  replace hB := hB.trans (bY1.mono hB.size)
  have hgw : w.heap.size ≤ g := by omega
  have EY := Lib.hid (And.intro hg (And.intro eY0 eY1))
  clear hg eY0 zY0 eY1 zY1
  obtain ⟨c0, c1, c2, c3, c4, c5, c6, c7, c8⟩ := hL.q9
  obtain ⟨c9, c10⟩ := hW.q2
  go_enter Tryz.func4, Tryz.ntmps4
  go_upto_region 1 with fail
  rw [← EY.out.2.1, ← EY.out.2.2, ← EY.out.1]
  replace hB := hB.drew
  replace p1 := p1.below (bdrew _)
  replace t1 := t1.below (bdrew _)
  replace p2 := p2.below (bdrew _)
  replace t2 := t2.below (bdrew _)
  replace p3 := p3.below (bdrew _)
  replace t3 := t3.below (bdrew _)
  replace hL := hL.drew
  replace hW := hW.drew
  clear c0 c1 c2 c3 c4 c5 c6 c7 c8 c9 c10
  refine wp_region_noPanic ?_
  refine wp_region_held_drew (S := fun w' => w'.cell? ⟨g + 1, 0, none⟩ = some (.int .i64 beta) ∧ w'.cell? ⟨g + 1, 1, none⟩ = some (.int .i64 f)) (by kernel_rfl) ?_ (fun hHeld => ?_)
  · exact ⟨hW.cell 0, hW.cell 1⟩
  obtain ⟨wd1_1, hwd⟩ : ∃ q, q = Y1.drew := ⟨_, rfl⟩
  rw [← hwd] at hB p1 t1 p2 t2 p3 t3 hL hW hHeld ⊢
  clear hwd
  refine tkH 0 rfl (v := ?v1) ?h1 ?r1
  case h1 => intro w hSw; (try dsimp only at hSw); go_simp; try (with_reducible rfl)
  refine tkH 1 rfl (v := ?v2) ?h2 ?r2
  case h2 => intro w hSw; (try dsimp only at hSw); go_simp; try (with_reducible rfl)
  refine tkH 2 rfl (v := ?v3) ?h3 ?r3
  case h3 => intro w hSw; (try dsimp only at hSw); go_simp; try (with_reducible rfl)
  refine tkH 3 rfl (v := ?v4) ?h4 ?r4
  case h4 => intro w hSw; (try dsimp only at hSw); go_simp; try (with_reducible rfl)
  refine tkH 4 rfl (v := ?v5) ?h5 ?r5
  case h5 => intro w hSw; (try dsimp only at hSw); go_simp; try (with_reducible rfl)
  refine tkH 5 rfl (v := ?v6) ?h6 ?r6
  case h6 => intro w hSw; (try dsimp only at hSw); go_simp; try (with_reducible rfl)
  try simp only [Act.put, lay1, lay2, lay3, lay4, lay5, lay6]
  try dsimp only
  try simp only [Act.put, lay1, lay2, lay3, lay4, lay5, lay6]
  refine wpAnyH_done (by kernel_rfl) ?_ _
  refine NoPanic.normal ?_
  skip
  obtain ⟨c11, c12, c13, c14, c15, c16, c17, c18, c19⟩ := hL.q9
  obtain ⟨c20, c21⟩ := hW.q2
  go_wp2_with fail
  go_loopw [9] (fun i wr => (i = .int .i64 0) ∧ Below wd1_1.heap.size wd1_1 wr) (fun i _ => (3 - RowKit.intOf i).toNat)
  case atStart => exact ⟨rfl, Below.refl _ _⟩
  case round =>
    obtain ⟨hc, bl⟩ := hrel
    replace p1 := p1.below bl
    replace t1 := t1.below bl
    replace p2 := p2.below bl
    replace t2 := t2.below bl
    replace p3 := p3.below bl
    replace t3 := t3.below bl
    replace hL := hL.below bl hL.lt
    replace hW := hW.below bl hW.lt
    replace hB := hB.trans (bl.mono hB.size)
    clear c11 c12 c13 c14 c15 c16 c17 c18 c19 c20 c21
    obtain ⟨c22, c23, c24, c25, c26, c27, c28, c29, c30⟩ := hL.q9
    obtain ⟨c31, c32⟩ := hW.q2
    subst hc
    go_wp2_with fail
    refine (hF1 _ p1 t1).mono ?_
    rintro e w5 ⟨rfl, b5⟩
    replace p1 := p1.below b5
    replace t1 := t1.below b5
    replace p2 := p2.below b5
    replace t2 := t2.below b5
    replace p3 := p3.below b5
    replace t3 := t3.below b5
    replace hL := hL.below b5 hL.lt
    replace hW := hW.below b5 hW.lt
    replace hB := hB.trans (b5.mono hB.size)
    clear c22 c23 c24 c25 c26 c27 c28 c29 c30 c31 c32
    obtain ⟨c33, c34, c35, c36, c37, c38, c39, c40, c41⟩ := hL.q9
    obtain ⟨c42, c43⟩ := hW.q2
    go_wp2_with fail
    refine (hA _).mono ?_
    rintro e w7 ⟨rfl, b7⟩
    replace p1 := p1.below b7
    replace t1 := t1.below b7
    replace p2 := p2.below b7
    replace t2 := t2.below b7
    replace p3 := p3.below b7
    replace t3 := t3.below b7
    replace hL := hL.below b7 hL.lt
    replace hW := hW.below b7 hW.lt
    replace hB := hB.trans (b7.mono hB.size)
    clear c33 c34 c35 c36 c37 c38 c39 c40 c41 c42 c43
    obtain ⟨c44, c45, c46, c47, c48, c49, c50, c51, c52⟩ := hL.q9
    obtain ⟨c53, c54⟩ := hW.q2
    go_wp2
    go_ret
    exact ⟨rfl, hB⟩
set_option maxRecDepth 100000 in
set_option maxHeartbeats 8000000 in
theorem TrackUp_u1b (s1 s2 s3 : Bool) (A1 D1 A2 D2 A3 D3 : Option Addr) (C1 E1 C2 E2 C3 E3 : Nat) (l1 m1 l2 m2 l3 m3 : List Nat) (beta f near : Int) (w : World) (r1 : RawQ w s1 (.slice A1 l1.length C1) (.slice D1 m1.length E1) l1 m1) (r2 : RawQ w s2 (.slice A2 l2.length C2) (.slice D2 m2.length E2) l2 m2) (r3 : RawQ w s3 (.slice A3 l3.length C3) (.slice D3 m3.length E3) l3 m3) (_hb : In64 beta) (_hnr : In64 near)  (f1 : fewQ s1 l1 m1 3 = true) (n1 : s1 = true) :
    Calls Tryz.prog 4 #[.agg #[.bool s1, .slice A1 l1.length C1, .slice D1 m1.length E1, .bool s2, .slice A2 l2.length C2, .slice D2 m2.length E2, .bool s3, .slice A3 l3.length C3, .slice D3 m3.length E3], .agg #[.int .i64 beta, .int .i64 f], .int .i64 near] w fun e w' => e = .returned (.bool true) ∧ Below w.heap.size w w' := by
  have hA := fun w => alive20_any w
  obtain ⟨p1, t1⟩ := r1
  have hF1 := fun w h1 h2 => rfew5_any s1 (.slice A1 l1.length C1) (.slice D1 m1.length E1) l1 m1 3 w h1 h2 (by omega)
  obtain ⟨p2, t2⟩ := r2
  have hF2 := fun w h1 h2 => rfew5_any s2 (.slice A2 l2.length C2) (.slice D2 m2.length E2) l2 m2 3 w h1 h2 (by omega)
  obtain ⟨p3, t3⟩ := r3
  have hF3 := fun w h1 h2 => rfew5_any s3 (.slice A3 l3.length C3) (.slice D3 m3.length E3) l3 m3 3 w h1 h2 (by omega)
  rw [f1] at hF1
  subst n1
  clear _hb _hnr f1
  obtain ⟨g, hg⟩ : ∃ g, g = w.heap.size := ⟨_, rfl⟩
  obtain ⟨Y0, eY0, hL, bY0⟩ := box1 w 52 #[.bool true, .slice A1 l1.length C1, .slice D1 m1.length E1, .bool s2, .slice A2 l2.length C2, .slice D2 m2.length E2, .bool s3, .slice A3 l3.length C3, .slice D3 m3.length E3]
  have zY0 : Y0.heap.size = g + 1 := by rw [eY0, World.size_alloc, ← hg]
  rw [← hg] at hL
  replace p1 := p1.below bY0
  replace t1 := t1.below bY0
  replace p2 := p2.below bY0
  replace t2 := t2.below bY0
  replace p3 := p3.below bY0
  replace t3 := t3.below bY0
  have hB := bY0
  obtain ⟨Y1, eY1, hW, bY1⟩ := box1 Y0 34 #[.int .i64 beta, .int .i64 f]
  have zY1 : Y1.heap.size = g + 1 + 1 := by rw [eY1, World.size_alloc, zY0]
  rw [zY0] at hW
  replace hL := hL.below bY1 hL.lt
  replace p1 := p1.below bY1
  replace t1 := t1.below bY1
  replace p2 := p2.below bY1
  replace t2 := t2.below bY1
  replace p3 := p3.below bY1
  replace t3 := t3.below bY1
  replace hB := hB.trans (bY1.mono hB.size)
  have hgw : w.heap.size ≤ g := by omega
  have EY := Lib.hid (And.intro hg (And.intro eY0 eY1))
  clear hg eY0 zY0 eY1 zY1
  obtain ⟨c0, c1, c2, c3, c4, c5, c6, c7, c8⟩ := hL.q9
  obtain ⟨c9, c10⟩ := hW.q2
  go_enter Tryz.func4, Tryz.ntmps4
  go_upto_region 1 with fail
  rw [← EY.out.2.1, ← EY.out.2.2, ← EY.out.1]
  replace hB := hB.drew
  replace p1 := p1.below (bdrew _)
  replace t1 := t1.below (bdrew _)
  replace p2 := p2.below (bdrew _)
  replace t2 := t2.below (bdrew _)
  replace p3 := p3.below (bdrew _)
  replace t3 := t3.below (bdrew _)
  replace hL := hL.drew
  replace hW := hW.drew
  clear c0 c1 c2 c3 c4 c5 c6 c7 c8 c9 c10
  refine wp_region_noPanic ?_
  refine wp_region_held_drew (S := fun w' => w'.cell? ⟨g + 1, 0, none⟩ = some (.int .i64 beta) ∧ w'.cell? ⟨g + 1, 1, none⟩ = some (.int .i64 f)) (by kernel_rfl) ?_ (fun hHeld => ?_)
  · exact ⟨hW.cell 0, hW.cell 1⟩
  obtain ⟨wd1_1, hwd⟩ : ∃ q, q = Y1.drew := ⟨_, rfl⟩
  rw [← hwd] at hB p1 t1 p2 t2 p3 t3 hL hW hHeld ⊢
  clear hwd
  refine tkH 0 rfl (v := ?v7) ?h7 ?r7
  case h7 => intro w hSw; (try dsimp only at hSw); go_simp; try (with_reducible rfl)
  refine tkH 1 rfl (v := ?v8) ?h8 ?r8
  case h8 => intro w hSw; (try dsimp only at hSw); go_simp; try (with_reducible rfl)
  refine tkH 2 rfl (v := ?v9) ?h9 ?r9
  case h9 => intro w hSw; (try dsimp only at hSw); go_simp; try (with_reducible rfl)
  refine tkH 3 rfl (v := ?v10) ?h10 ?r10
  case h10 => intro w hSw; (try dsimp only at hSw); go_simp; try (with_reducible rfl)
  refine tkH 4 rfl (v := ?v11) ?h11 ?r11
  case h11 => intro w hSw; (try dsimp only at hSw); go_simp; try (with_reducible rfl)
  refine tkH 5 rfl (v := ?v12) ?h12 ?r12
  case h12 => intro w hSw; (try dsimp only at hSw); go_simp; try (with_reducible rfl)
  try simp only [Act.put, lay1, lay2, lay3, lay4, lay5, lay6]
  try dsimp only
  try simp only [Act.put, lay1, lay2, lay3, lay4, lay5, lay6]
  refine wpAnyH_done (by kernel_rfl) ?_ _
  refine NoPanic.normal ?_
  skip
  obtain ⟨c11, c12, c13, c14, c15, c16, c17, c18, c19⟩ := hL.q9
  obtain ⟨c20, c21⟩ := hW.q2
  go_wp2_with fail
  go_loopw [9] (fun i wr => (i = .int .i64 0) ∧ Below wd1_1.heap.size wd1_1 wr) (fun i _ => (3 - RowKit.intOf i).toNat)
  case atStart => exact ⟨rfl, Below.refl _ _⟩
  case round =>
    obtain ⟨hc, bl⟩ := hrel
    replace p1 := p1.below bl
    replace t1 := t1.below bl
    replace p2 := p2.below bl
    replace t2 := t2.below bl
    replace p3 := p3.below bl
    replace t3 := t3.below bl
    replace hL := hL.below bl hL.lt
    replace hW := hW.below bl hW.lt
    replace hB := hB.trans (bl.mono hB.size)
    clear c11 c12 c13 c14 c15 c16 c17 c18 c19 c20 c21
    obtain ⟨c22, c23, c24, c25, c26, c27, c28, c29, c30⟩ := hL.q9
    obtain ⟨c31, c32⟩ := hW.q2
    subst hc
    go_wp2_with fail
    refine (hF1 _ p1 t1).mono ?_
    rintro e w5 ⟨rfl, b5⟩
    replace p1 := p1.below b5
    replace t1 := t1.below b5
    replace p2 := p2.below b5
    replace t2 := t2.below b5
    replace p3 := p3.below b5
    replace t3 := t3.below b5
    replace hL := hL.below b5 hL.lt
    replace hW := hW.below b5 hW.lt
    replace hB := hB.trans (b5.mono hB.size)
    clear c22 c23 c24 c25 c26 c27 c28 c29 c30 c31 c32
    obtain ⟨c33, c34, c35, c36, c37, c38, c39, c40, c41⟩ := hL.q9
    obtain ⟨c42, c43⟩ := hW.q2
    go_wp2_with fail
    refine (hA _).mono ?_
    rintro e w7 ⟨rfl, b7⟩
    replace p1 := p1.below b7
    replace t1 := t1.below b7
    replace p2 := p2.below b7
    replace t2 := t2.below b7
    replace p3 := p3.below b7
    replace t3 := t3.below b7
    replace hL := hL.below b7 hL.lt
    replace hW := hW.below b7 hW.lt
    replace hB := hB.trans (b7.mono hB.size)
    clear c33 c34 c35 c36 c37 c38 c39 c40 c41 c42 c43
    obtain ⟨c44, c45, c46, c47, c48, c49, c50, c51, c52⟩ := hL.q9
    obtain ⟨c53, c54⟩ := hW.q2
    go_wp2
    go_ret
    exact ⟨rfl, hB⟩
set_option maxRecDepth 100000 in
set_option maxHeartbeats 8000000 in
theorem TrackUp_u2a (s1 s2 s3 : Bool) (A1 D1 A2 D2 A3 D3 : Option Addr) (C1 E1 C2 E2 C3 E3 : Nat) (l1 m1 l2 m2 l3 m3 : List Nat) (beta f near : Int) (w : World) (r1 : RawQ w s1 (.slice A1 l1.length C1) (.slice D1 m1.length E1) l1 m1) (r2 : RawQ w s2 (.slice A2 l2.length C2) (.slice D2 m2.length E2) l2 m2) (r3 : RawQ w s3 (.slice A3 l3.length C3) (.slice D3 m3.length E3) l3 m3) (_hb : In64 beta) (_hnr : In64 near) (f1 : fewQ s1 l1 m1 3 = true) (n1 : s1 = false) (f2 : fewQ s2 l2 m2 3 = false) :
    Calls Tryz.prog 4 #[.agg #[.bool s1, .slice A1 l1.length C1, .slice D1 m1.length E1, .bool s2, .slice A2 l2.length C2, .slice D2 m2.length E2, .bool s3, .slice A3 l3.length C3, .slice D3 m3.length E3], .agg #[.int .i64 beta, .int .i64 f], .int .i64 near] w fun e w' => e = .returned (.bool true) ∧ Below w.heap.size w w' := by
  have hA := fun w => alive20_any w
  obtain ⟨p1, t1⟩ := r1
  have hF1 := fun w h1 h2 => rfew5_any s1 (.slice A1 l1.length C1) (.slice D1 m1.length E1) l1 m1 3 w h1 h2 (by omega)
  obtain ⟨p2, t2⟩ := r2
  have hF2 := fun w h1 h2 => rfew5_any s2 (.slice A2 l2.length C2) (.slice D2 m2.length E2) l2 m2 3 w h1 h2 (by omega)
  obtain ⟨p3, t3⟩ := r3
  have hF3 := fun w h1 h2 => rfew5_any s3 (.slice A3 l3.length C3) (.slice D3 m3.length E3) l3 m3 3 w h1 h2 (by omega)
  rw [f1] at hF1
  rw [f2] at hF2
  subst n1
  clear _hb _hnr f1 f2
  obtain ⟨g, hg⟩ : ∃ g, g = w.heap.size := ⟨_, rfl⟩
  obtain ⟨Y0, eY0, hL, bY0⟩ := box1 w 52 #[.bool false, .slice A1 l1.length C1, .slice D1 m1.length E1, .bool s2, .slice A2 l2.length C2, .slice D2 m2.length E2, .bool s3, .slice A3 l3.length C3, .slice D3 m3.length E3]
  have zY0 : Y0.heap.size = g + 1 := by rw [eY0, World.size_alloc, ← hg]
  rw [← hg] at hL
  replace p1 := p1.below bY0
  replace t1 := t1.below bY0
  replace p2 := p2.below bY0
  replace t2 := t2.below bY0
  replace p3 := p3.below bY0
  replace t3 := t3.below bY0
  have hB := bY0
  obtain ⟨Y1, eY1, hW, bY1⟩ := box1 Y0 34 #[.int .i64 beta, .int .i64 f]
  have zY1 : Y1.heap.size = g + 1 + 1 := by rw [eY1, World.size_alloc, zY0]
  rw [zY0] at hW
  replace hL := hL.below bY1 hL.lt
  replace p1 := p1.below bY1
  replace t1 := t1.below bY1
  replace p2 := p2.below bY1
  replace t2 := t2.below bY1
  replace p3 := p3.below bY1
  replace t3 := t3.below bY1
  replace hB := hB.trans (bY1.mono hB.size)
  have hgw : w.heap.size ≤ g := by omega
  have EY := Lib.hid (And.intro hg (And.intro eY0 eY1))
  clear hg eY0 zY0 eY1 zY1
  obtain ⟨c0, c1, c2, c3, c4, c5, c6, c7, c8⟩ := hL.q9
  obtain ⟨c9, c10⟩ := hW.q2
  go_enter Tryz.func4, Tryz.ntmps4
  go_upto_region 1 with fail
  rw [← EY.out.2.1, ← EY.out.2.2, ← EY.out.1]
  replace hB := hB.drew
  replace p1 := p1.below (bdrew _)
  replace t1 := t1.below (bdrew _)
  replace p2 := p2.below (bdrew _)
  replace t2 := t2.below (bdrew _)
  replace p3 := p3.below (bdrew _)
  replace t3 := t3.below (bdrew _)
  replace hL := hL.drew
  replace hW := hW.drew
  clear c0 c1 c2 c3 c4 c5 c6 c7 c8 c9 c10
  refine wp_region_noPanic ?_
  refine wp_region_held_drew (S := fun w' => w'.cell? ⟨g + 1, 0, none⟩ = some (.int .i64 beta) ∧ w'.cell? ⟨g + 1, 1, none⟩ = some (.int .i64 f)) (by kernel_rfl) ?_ (fun hHeld => ?_)
  · exact ⟨hW.cell 0, hW.cell 1⟩
  obtain ⟨wd1_1, hwd⟩ : ∃ q, q = Y1.drew := ⟨_, rfl⟩
  rw [← hwd] at hB p1 t1 p2 t2 p3 t3 hL hW hHeld ⊢
  clear hwd
  refine tkH 0 rfl (v := ?v13) ?h13 ?r13
  case h13 => intro w hSw; (try dsimp only at hSw); go_simp; try (with_reducible rfl)
  refine tkH 1 rfl (v := ?v14) ?h14 ?r14
  case h14 => intro w hSw; (try dsimp only at hSw); go_simp; try (with_reducible rfl)
  refine tkH 2 rfl (v := ?v15) ?h15 ?r15
  case h15 => intro w hSw; (try dsimp only at hSw); go_simp; try (with_reducible rfl)
  refine tkH 3 rfl (v := ?v16) ?h16 ?r16
  case h16 => intro w hSw; (try dsimp only at hSw); go_simp; try (with_reducible rfl)
  refine tkH 4 rfl (v := ?v17) ?h17 ?r17
  case h17 => intro w hSw; (try dsimp only at hSw); go_simp; try (with_reducible rfl)
  refine tkH 5 rfl (v := ?v18) ?h18 ?r18
  case h18 => intro w hSw; (try dsimp only at hSw); go_simp; try (with_reducible rfl)
  try simp only [Act.put, lay1, lay2, lay3, lay4, lay5, lay6]
  try dsimp only
  try simp only [Act.put, lay1, lay2, lay3, lay4, lay5, lay6]
  refine wpAnyH_done (by kernel_rfl) ?_ _
  refine NoPanic.normal ?_
  skip
  obtain ⟨c11, c12, c13, c14, c15, c16, c17, c18, c19⟩ := hL.q9
  obtain ⟨c20, c21⟩ := hW.q2
  go_wp2_with fail
  go_loopw [9] (fun i wr => (i = .int .i64 0 ∨ i = .int .i64 1) ∧ Below wd1_1.heap.size wd1_1 wr) (fun i _ => (3 - RowKit.intOf i).toNat)
  case atStart => exact ⟨.inl rfl, Below.refl _ _⟩
  case round =>
    obtain ⟨hc, bl⟩ := hrel
    replace p1 := p1.below bl
    replace t1 := t1.below bl
    replace p2 := p2.below bl
    replace t2 := t2.below bl
    replace p3 := p3.below bl
    replace t3 := t3.below bl
    replace hL := hL.below bl hL.lt
    replace hW := hW.below bl hW.lt
    replace hB := hB.trans (bl.mono hB.size)
    clear c11 c12 c13 c14 c15 c16 c17 c18 c19 c20 c21
    obtain ⟨c22, c23, c24, c25, c26, c27, c28, c29, c30⟩ := hL.q9
    obtain ⟨c31, c32⟩ := hW.q2
    rcases hc with rfl | rfl
    · go_wp2_with fail
      refine (hF1 _ p1 t1).mono ?_
      rintro e w5 ⟨rfl, b5⟩
      replace p1 := p1.below b5
      replace t1 := t1.below b5
      replace p2 := p2.below b5
      replace t2 := t2.below b5
      replace p3 := p3.below b5
      replace t3 := t3.below b5
      replace hL := hL.below b5 hL.lt
      replace hW := hW.below b5 hW.lt
      replace hB := hB.trans (b5.mono hB.size)
      clear c22 c23 c24 c25 c26 c27 c28 c29 c30 c31 c32
      obtain ⟨c33, c34, c35, c36, c37, c38, c39, c40, c41⟩ := hL.q9
      obtain ⟨c42, c43⟩ := hW.q2
      go_wp2
      exact ⟨⟨.inr (rfl), bl.trans (b5.mono bl.size)⟩, by simp [RowKit.intOf]⟩
    · go_wp2_with fail
      refine (hF2 _ p2 t2).mono ?_
      rintro e w5 ⟨rfl, b5⟩
      replace p1 := p1.below b5
      replace t1 := t1.below b5
      replace p2 := p2.below b5
      replace t2 := t2.below b5
      replace p3 := p3.below b5
      replace t3 := t3.below b5
      replace hL := hL.below b5 hL.lt
      replace hW := hW.below b5 hW.lt
      replace hB := hB.trans (b5.mono hB.size)
      clear c22 c23 c24 c25 c26 c27 c28 c29 c30 c31 c32
      obtain ⟨c33, c34, c35, c36, c37, c38, c39, c40, c41⟩ := hL.q9
      obtain ⟨c42, c43⟩ := hW.q2
      go_wp2_with fail
      refine (hA _).mono ?_
      rintro e w7 ⟨rfl, b7⟩
      replace p1 := p1.below b7
      replace t1 := t1.below b7
      replace p2 := p2.below b7
      replace t2 := t2.below b7
      replace p3 := p3.below b7
      replace t3 := t3.below b7
      replace hL := hL.below b7 hL.lt
      replace hW := hW.below b7 hW.lt
      replace hB := hB.trans (b7.mono hB.size)
      clear c33 c34 c35 c36 c37 c38 c39 c40 c41 c42 c43
      obtain ⟨c44, c45, c46, c47, c48, c49, c50, c51, c52⟩ := hL.q9
      obtain ⟨c53, c54⟩ := hW.q2
      go_wp2
      go_ret
      exact ⟨rfl, hB⟩
set_option maxRecDepth 100000 in
set_option maxHeartbeats 8000000 in
theorem TrackUp_u2b (s1 s2 s3 : Bool) (A1 D1 A2 D2 A3 D3 : Option Addr) (C1 E1 C2 E2 C3 E3 : Nat) (l1 m1 l2 m2 l3 m3 : List Nat) (beta f near : Int) (w : World) (r1 : RawQ w s1 (.slice A1 l1.length C1) (.slice D1 m1.length E1) l1 m1) (r2 : RawQ w s2 (.slice A2 l2.length C2) (.slice D2 m2.length E2) l2 m2) (r3 : RawQ w s3 (.slice A3 l3.length C3) (.slice D3 m3.length E3) l3 m3) (_hb : In64 beta) (_hnr : In64 near) (f1 : fewQ s1 l1 m1 3 = true) (n1 : s1 = false) (f2 : fewQ s2 l2 m2 3 = true) (n2 : s2 = true) :
    Calls Tryz.prog 4 #[.agg #[.bool s1, .slice A1 l1.length C1, .slice D1 m1.length E1, .bool s2, .slice A2 l2.length C2, .slice D2 m2.length E2, .bool s3, .slice A3 l3.length C3, .slice D3 m3.length E3], .agg #[.int .i64 beta, .int .i64 f], .int .i64 near] w fun e w' => e = .returned (.bool true) ∧ Below w.heap.size w w' := by
  have hA := fun w => alive20_any w
  obtain ⟨p1, t1⟩ := r1
  have hF1 := fun w h1 h2 => rfew5_any s1 (.slice A1 l1.length C1) (.slice D1 m1.length E1) l1 m1 3 w h1 h2 (by omega)
  obtain ⟨p2, t2⟩ := r2
  have hF2 := fun w h1 h2 => rfew5_any s2 (.slice A2 l2.length C2) (.slice D2 m2.length E2) l2 m2 3 w h1 h2 (by omega)
  obtain ⟨p3, t3⟩ := r3
  have hF3 := fun w h1 h2 => rfew5_any s3 (.slice A3 l3.length C3) (.slice D3 m3.length E3) l3 m3 3 w h1 h2 (by omega)
  rw [f1] at hF1
  rw [f2] at hF2
  subst n1
  subst n2
  clear _hb _hnr f1 f2
  obtain ⟨g, hg⟩ : ∃ g, g = w.heap.size := ⟨_, rfl⟩
  obtain ⟨Y0, eY0, hL, bY0⟩ := box1 w 52 #[.bool false, .slice A1 l1.length C1, .slice D1 m1.length E1, .bool true, .slice A2 l2.length C2, .slice D2 m2.length E2, .bool s3, .slice A3 l3.length C3, .slice D3 m3.length E3]
  have zY0 : Y0.heap.size = g + 1 := by rw [eY0, World.size_alloc, ← hg]
  rw [← hg] at hL
  replace p1 := p1.below bY0
  replace t1 := t1.below bY0
  replace p2 := p2.below bY0
  replace t2 := t2.below bY0
  replace p3 := p3.below bY0
  replace t3 := t3.below bY0
  have hB := bY0
  obtain ⟨Y1, eY1, hW, bY1⟩ := box1 Y0 34 #[.int .i64 beta, .int .i64 f]
  have zY1 : Y1.heap.size = g + 1 + 1 := by rw [eY1, World.size_alloc, zY0]
  rw [zY0] at hW
  replace hL := hL.below bY1 hL.lt
  replace p1 := p1.below bY1
  replace t1 := t1.below bY1
  replace p2 := p2.below bY1
  replace t2 := t2.below bY1
  replace p3 := p3.below bY1
  replace t3 := t3.below bY1
  replace hB := hB.trans (bY1.mono hB.size)
  have hgw : w.heap.size ≤ g := by omega
  have EY := Lib.hid (And.intro hg (And.intro eY0 eY1))
  clear hg eY0 zY0 eY1 zY1
  obtain ⟨c0, c1, c2, c3, c4, c5, c6, c7, c8⟩ := hL.q9
  obtain ⟨c9, c10⟩ := hW.q2
  go_enter Tryz.func4, Tryz.ntmps4
  go_upto_region 1 with fail
  rw [← EY.out.2.1, ← EY.out.2.2, ← EY.out.1]
  replace hB := hB.drew
  replace p1 := p1.below (bdrew _)
  replace t1 := t1.below (bdrew _)
  replace p2 := p2.below (bdrew _)
  replace t2 := t2.below (bdrew _)
  replace p3 := p3.below (bdrew _)
  replace t3 := t3.below (bdrew _)
  replace hL := hL.drew
  replace hW := hW.drew
  clear c0 c1 c2 c3 c4 c5 c6 c7 c8 c9 c10
  refine wp_region_noPanic ?_
  refine wp_region_held_drew (S := fun w' => w'.cell? ⟨g + 1, 0, none⟩ = some (.int .i64 beta) ∧ w'.cell? ⟨g + 1, 1, none⟩ = some (.int .i64 f)) (by kernel_rfl) ?_ (fun hHeld => ?_)
  · exact ⟨hW.cell 0, hW.cell 1⟩
  obtain ⟨wd1_1, hwd⟩ : ∃ q, q = Y1.drew := ⟨_, rfl⟩
  rw [← hwd] at hB p1 t1 p2 t2 p3 t3 hL hW hHeld ⊢
  clear hwd
  refine tkH 0 rfl (v := ?v19) ?h19 ?r19
  case h19 => intro w hSw; (try dsimp only at hSw); go_simp; try (with_reducible rfl)
  refine tkH 1 rfl (v := ?v20) ?h20 ?r20
  case h20 => intro w hSw; (try dsimp only at hSw); go_simp; try (with_reducible rfl)
  refine tkH 2 rfl (v := ?v21) ?h21 ?r21
  case h21 => intro w hSw; (try dsimp only at hSw); go_simp; try (with_reducible rfl)
  refine tkH 3 rfl (v := ?v22) ?h22 ?r22
  case h22 => intro w hSw; (try dsimp only at hSw); go_simp; try (with_reducible rfl)
  refine tkH 4 rfl (v := ?v23) ?h23 ?r23
  case h23 => intro w hSw; (try dsimp only at hSw); go_simp; try (with_reducible rfl)
  refine tkH 5 rfl (v := ?v24) ?h24 ?r24
  case h24 => intro w hSw; (try dsimp only at hSw); go_simp; try (with_reducible rfl)
  try simp only [Act.put, lay1, lay2, lay3, lay4, lay5, lay6]
  try dsimp only
  try simp only [Act.put, lay1, lay2, lay3, lay4, lay5, lay6]
  refine wpAnyH_done (by kernel_rfl) ?_ _
  refine NoPanic.normal ?_
  skip
  obtain ⟨c11, c12, c13, c14, c15, c16, c17, c18, c19⟩ := hL.q9
  obtain ⟨c20, c21⟩ := hW.q2
  go_wp2_with fail
  go_loopw [9] (fun i wr => (i = .int .i64 0 ∨ i = .int .i64 1) ∧ Below wd1_1.heap.size wd1_1 wr) (fun i _ => (3 - RowKit.intOf i).toNat)
  case atStart => exact ⟨.inl rfl, Below.refl _ _⟩
  case round =>
    obtain ⟨hc, bl⟩ := hrel
    replace p1 := p1.below bl
    replace t1 := t1.below bl
    replace p2 := p2.below bl
    replace t2 := t2.below bl
    replace p3 := p3.below bl
    replace t3 := t3.below bl
    replace hL := hL.below bl hL.lt
    replace hW := hW.below bl hW.lt
    replace hB := hB.trans (bl.mono hB.size)
    clear c11 c12 c13 c14 c15 c16 c17 c18 c19 c20 c21
    obtain ⟨c22, c23, c24, c25, c26, c27, c28, c29, c30⟩ := hL.q9
    obtain ⟨c31, c32⟩ := hW.q2
    rcases hc with rfl | rfl
    · go_wp2_with fail
      refine (hF1 _ p1 t1).mono ?_
      rintro e w5 ⟨rfl, b5⟩
      replace p1 := p1.below b5
      replace t1 := t1.below b5
      replace p2 := p2.below b5
      replace t2 := t2.below b5
      replace p3 := p3.below b5
      replace t3 := t3.below b5
      replace hL := hL.below b5 hL.lt
      replace hW := hW.below b5 hW.lt
      replace hB := hB.trans (b5.mono hB.size)
      clear c22 c23 c24 c25 c26 c27 c28 c29 c30 c31 c32
      obtain ⟨c33, c34, c35, c36, c37, c38, c39, c40, c41⟩ := hL.q9
      obtain ⟨c42, c43⟩ := hW.q2
      go_wp2
      exact ⟨⟨.inr (rfl), bl.trans (b5.mono bl.size)⟩, by simp [RowKit.intOf]⟩
    · go_wp2_with fail
      refine (hF2 _ p2 t2).mono ?_
      rintro e w5 ⟨rfl, b5⟩
      replace p1 := p1.below b5
      replace t1 := t1.below b5
      replace p2 := p2.below b5
      replace t2 := t2.below b5
      replace p3 := p3.below b5
      replace t3 := t3.below b5
      replace hL := hL.below b5 hL.lt
      replace hW := hW.below b5 hW.lt
      replace hB := hB.trans (b5.mono hB.size)
      clear c22 c23 c24 c25 c26 c27 c28 c29 c30 c31 c32
      obtain ⟨c33, c34, c35, c36, c37, c38, c39, c40, c41⟩ := hL.q9
      obtain ⟨c42, c43⟩ := hW.q2
      go_wp2_with fail
      refine (hA _).mono ?_
      rintro e w7 ⟨rfl, b7⟩
      replace p1 := p1.below b7
      replace t1 := t1.below b7
      replace p2 := p2.below b7
      replace t2 := t2.below b7
      replace p3 := p3.below b7
      replace t3 := t3.below b7
      replace hL := hL.below b7 hL.lt
      replace hW := hW.below b7 hW.lt
      replace hB := hB.trans (b7.mono hB.size)
      clear c33 c34 c35 c36 c37 c38 c39 c40 c41 c42 c43
      obtain ⟨c44, c45, c46, c47, c48, c49, c50, c51, c52⟩ := hL.q9
      obtain ⟨c53, c54⟩ := hW.q2
      go_wp2
      go_ret
      exact ⟨rfl, hB⟩
set_option maxRecDepth 100000 in
set_option maxHeartbeats 8000000 in
theorem TrackUp_u3a (s1 s2 s3 : Bool) (A1 D1 A2 D2 A3 D3 : Option Addr) (C1 E1 C2 E2 C3 E3 : Nat) (l1 m1 l2 m2 l3 m3 : List Nat) (beta f near : Int) (w : World) (r1 : RawQ w s1 (.slice A1 l1.length C1) (.slice D1 m1.length E1) l1 m1) (r2 : RawQ w s2 (.slice A2 l2.length C2) (.slice D2 m2.length E2) l2 m2) (r3 : RawQ w s3 (.slice A3 l3.length C3) (.slice D3 m3.length E3) l3 m3) (_hb : In64 beta) (_hnr : In64 near) (f1 : fewQ s1 l1 m1 3 = true) (n1 : s1 = false) (f2 : fewQ s2 l2 m2 3 = true) (n2 : s2 = false) (f3 : fewQ s3 l3 m3 3 = false) :
    Calls Tryz.prog 4 #[.agg #[.bool s1, .slice A1 l1.length C1, .slice D1 m1.length E1, .bool s2, .slice A2 l2.length C2, .slice D2 m2.length E2, .bool s3, .slice A3 l3.length C3, .slice D3 m3.length E3], .agg #[.int .i64 beta, .int .i64 f], .int .i64 near] w fun e w' => e = .returned (.bool true) ∧ Below w.heap.size w w' := by
  have hA := fun w => alive20_any w
  obtain ⟨p1, t1⟩ := r1
  have hF1 := fun w h1 h2 => rfew5_any s1 (.slice A1 l1.length C1) (.slice D1 m1.length E1) l1 m1 3 w h1 h2 (by omega)
  obtain ⟨p2, t2⟩ := r2
  have hF2 := fun w h1 h2 => rfew5_any s2 (.slice A2 l2.length C2) (.slice D2 m2.length E2) l2 m2 3 w h1 h2 (by omega)
  obtain ⟨p3, t3⟩ := r3
  have hF3 := fun w h1 h2 => rfew5_any s3 (.slice A3 l3.length C3) (.slice D3 m3.length E3) l3 m3 3 w h1 h2 (by omega)
  rw [f1] at hF1
  rw [f2] at hF2
  rw [f3] at hF3
  subst n1
  subst n2
  clear _hb _hnr f1 f2 f3
  obtain ⟨g, hg⟩ : ∃ g, g = w.heap.size := ⟨_, rfl⟩
  obtain ⟨Y0, eY0, hL, bY0⟩ := box1 w 52 #[.bool false, .slice A1 l1.length C1, .slice D1 m1.length E1, .bool false, .slice A2 l2.length C2, .slice D2 m2.length E2, .bool s3, .slice A3 l3.length C3, .slice D3 m3.length E3]
  have zY0 : Y0.heap.size = g + 1 := by rw [eY0, World.size_alloc, ← hg]
  rw [← hg] at hL
  replace p1 := p1.below bY0
  replace t1 := t1.below bY0
  replace p2 := p2.below bY0
  replace t2 := t2.below bY0
  replace p3 := p3.below bY0
  replace t3 := t3.below bY0
  have hB := bY0
  obtain ⟨Y1, eY1, hW, bY1⟩ := box1 Y0 34 #[.int .i64 beta, .int .i64 f]
  have zY1 : Y1.heap.size = g + 1 + 1 := by rw [eY1, World.size_alloc, zY0]
  rw [zY0] at hW
  replace hL := hL.below bY1 hL.lt
  replace p1 := p1.below bY1
  replace t1 := t1.below bY1
  replace p2 := p2.below bY1
  replace t2 := t2.below bY1
  replace p3 := p3.below bY1
  replace t3 := t3.below bY1
  replace hB := hB.trans (bY1.mono hB.size)
  have hgw : w.heap.size ≤ g := by omega
  have EY := Lib.hid (And.intro hg (And.intro eY0 eY1))
  clear hg eY0 zY0 eY1 zY1
  obtain ⟨c0, c1, c2, c3, c4, c5, c6, c7, c8⟩ := hL.q9
  obtain ⟨c9, c10⟩ := hW.q2
  go_enter Tryz.func4, Tryz.ntmps4
  go_upto_region 1 with fail
  rw [← EY.out.2.1, ← EY.out.2.2, ← EY.out.1]
  replace hB := hB.drew
  replace p1 := p1.below (bdrew _)
  replace t1 := t1.below (bdrew _)
  replace p2 := p2.below (bdrew _)
  replace t2 := t2.below (bdrew _)
  replace p3 := p3.below (bdrew _)
  replace t3 := t3.below (bdrew _)
  replace hL := hL.drew
  replace hW := hW.drew
  clear c0 c1 c2 c3 c4 c5 c6 c7 c8 c9 c10
  refine wp_region_noPanic ?_
  refine wp_region_held_drew (S := fun w' => w'.cell? ⟨g + 1, 0, none⟩ = some (.int .i64 beta) ∧ w'.cell? ⟨g + 1, 1, none⟩ = some (.int .i64 f)) (by kernel_rfl) ?_ (fun hHeld => ?_)
  · exact ⟨hW.cell 0, hW.cell 1⟩
  obtain ⟨wd1_1, hwd⟩ : ∃ q, q = Y1.drew := ⟨_, rfl⟩
  rw [← hwd] at hB p1 t1 p2 t2 p3 t3 hL hW hHeld ⊢
  clear hwd
  refine tkH 0 rfl (v := ?v25) ?h25 ?r25
  case h25 => intro w hSw; (try dsimp only at hSw); go_simp; try (with_reducible rfl)
  refine tkH 1 rfl (v := ?v26) ?h26 ?r26
  case h26 => intro w hSw; (try dsimp only at hSw); go_simp; try (with_reducible rfl)
  refine tkH 2 rfl (v := ?v27) ?h27 ?r27
  case h27 => intro w hSw; (try dsimp only at hSw); go_simp; try (with_reducible rfl)
  refine tkH 3 rfl (v := ?v28) ?h28 ?r28
  case h28 => intro w hSw; (try dsimp only at hSw); go_simp; try (with_reducible rfl)
  refine tkH 4 rfl (v := ?v29) ?h29 ?r29
  case h29 => intro w hSw; (try dsimp only at hSw); go_simp; try (with_reducible rfl)
  refine tkH 5 rfl (v := ?v30) ?h30 ?r30
  case h30 => intro w hSw; (try dsimp only at hSw); go_simp; try (with_reducible rfl)
  try simp only [Act.put, lay1, lay2, lay3, lay4, lay5, lay6]
  try dsimp only
  try simp only [Act.put, lay1, lay2, lay3, lay4, lay5, lay6]
  refine wpAnyH_done (by kernel_rfl) ?_ _
  refine NoPanic.normal ?_
  skip
  obtain ⟨c11, c12, c13, c14, c15, c16, c17, c18, c19⟩ := hL.q9
  obtain ⟨c20, c21⟩ := hW.q2
  go_wp2_with fail
  go_loopw [9] (fun i wr => (i = .int .i64 0 ∨ i = .int .i64 1 ∨ i = .int .i64 2) ∧ Below wd1_1.heap.size wd1_1 wr) (fun i _ => (3 - RowKit.intOf i).toNat)
  case atStart => exact ⟨.inl rfl, Below.refl _ _⟩
  case round =>
    obtain ⟨hc, bl⟩ := hrel
    replace p1 := p1.below bl
    replace t1 := t1.below bl
    replace p2 := p2.below bl
    replace t2 := t2.below bl
    replace p3 := p3.below bl
    replace t3 := t3.below bl
    replace hL := hL.below bl hL.lt
    replace hW := hW.below bl hW.lt
    replace hB := hB.trans (bl.mono hB.size)
    clear c11 c12 c13 c14 c15 c16 c17 c18 c19 c20 c21
    obtain ⟨c22, c23, c24, c25, c26, c27, c28, c29, c30⟩ := hL.q9
    obtain ⟨c31, c32⟩ := hW.q2
    rcases hc with rfl | rfl | rfl
    · go_wp2_with fail
      refine (hF1 _ p1 t1).mono ?_
      rintro e w5 ⟨rfl, b5⟩
      replace p1 := p1.below b5
      replace t1 := t1.below b5
      replace p2 := p2.below b5
      replace t2 := t2.below b5
      replace p3 := p3.below b5
      replace t3 := t3.below b5
      replace hL := hL.below b5 hL.lt
      replace hW := hW.below b5 hW.lt
      replace hB := hB.trans (b5.mono hB.size)
      clear c22 c23 c24 c25 c26 c27 c28 c29 c30 c31 c32
      obtain ⟨c33, c34, c35, c36, c37, c38, c39, c40, c41⟩ := hL.q9
      obtain ⟨c42, c43⟩ := hW.q2
      go_wp2
      exact ⟨⟨.inr (.inl rfl), bl.trans (b5.mono bl.size)⟩, by simp [RowKit.intOf]⟩
    · go_wp2_with fail
      refine (hF2 _ p2 t2).mono ?_
      rintro e w5 ⟨rfl, b5⟩
      replace p1 := p1.below b5
      replace t1 := t1.below b5
      replace p2 := p2.below b5
      replace t2 := t2.below b5
      replace p3 := p3.below b5
      replace t3 := t3.below b5
      replace hL := hL.below b5 hL.lt
      replace hW := hW.below b5 hW.lt
      replace hB := hB.trans (b5.mono hB.size)
      clear c22 c23 c24 c25 c26 c27 c28 c29 c30 c31 c32
      obtain ⟨c33, c34, c35, c36, c37, c38, c39, c40, c41⟩ := hL.q9
      obtain ⟨c42, c43⟩ := hW.q2
      go_wp2
      exact ⟨⟨.inr (.inr (rfl)), bl.trans (b5.mono bl.size)⟩, by simp [RowKit.intOf]⟩
    · go_wp2_with fail
      refine (hF3 _ p3 t3).mono ?_
      rintro e w5 ⟨rfl, b5⟩
      replace p1 := p1.below b5
      replace t1 := t1.below b5
      replace p2 := p2.below b5
      replace t2 := t2.below b5
      replace p3 := p3.below b5
      replace t3 := t3.below b5
      replace hL := hL.below b5 hL.lt
      replace hW := hW.below b5 hW.lt
      replace hB := hB.trans (b5.mono hB.size)
      clear c22 c23 c24 c25 c26 c27 c28 c29 c30 c31 c32
      obtain ⟨c33, c34, c35, c36, c37, c38, c39, c40, c41⟩ := hL.q9
      obtain ⟨c42, c43⟩ := hW.q2
      go_wp2_with fail
      refine (hA _).mono ?_
      rintro e w7 ⟨rfl, b7⟩
      replace p1 := p1.below b7
      replace t1 := t1.below b7
      replace p2 := p2.below b7
      replace t2 := t2.below b7
      replace p3 := p3.below b7
      replace t3 := t3.below b7
      replace hL := hL.below b7 hL.lt
      replace hW := hW.below b7 hW.lt
      replace hB := hB.trans (b7.mono hB.size)
      clear c33 c34 c35 c36 c37 c38 c39 c40 c41 c42 c43
      obtain ⟨c44, c45, c46, c47, c48, c49, c50, c51, c52⟩ := hL.q9
      obtain ⟨c53, c54⟩ := hW.q2
      go_wp2
      go_ret
      exact ⟨rfl, hB⟩
set_option maxRecDepth 100000 in
set_option maxHeartbeats 8000000 in
theorem TrackUp_u3b (s1 s2 s3 : Bool) (A1 D1 A2 D2 A3 D3 : Option Addr) (C1 E1 C2 E2 C3 E3 : Nat) (l1 m1 l2 m2 l3 m3 : List Nat) (beta f near : Int) (w : World) (r1 : RawQ w s1 (.slice A1 l1.length C1) (.slice D1 m1.length E1) l1 m1) (r2 : RawQ w s2 (.slice A2 l2.length C2) (.slice D2 m2.length E2) l2 m2) (r3 : RawQ w s3 (.slice A3 l3.length C3) (.slice D3 m3.length E3) l3 m3) (_hb : In64 beta) (_hnr : In64 near) (f1 : fewQ s1 l1 m1 3 = true) (n1 : s1 = false) (f2 : fewQ s2 l2 m2 3 = true) (n2 : s2 = false) (f3 : fewQ s3 l3 m3 3 = true) (n3 : s3 = true) :
    Calls Tryz.prog 4 #[.agg #[.bool s1, .slice A1 l1.length C1, .slice D1 m1.length E1, .bool s2, .slice A2 l2.length C2, .slice D2 m2.length E2, .bool s3, .slice A3 l3.length C3, .slice D3 m3.length E3], .agg #[.int .i64 beta, .int .i64 f], .int .i64 near] w fun e w' => e = .returned (.bool true) ∧ Below w.heap.size w w' := by
  have hA := fun w => alive20_any w
  obtain ⟨p1, t1⟩ := r1
  have hF1 := fun w h1 h2 => rfew5_any s1 (.slice A1 l1.length C1) (.slice D1 m1.length E1) l1 m1 3 w h1 h2 (by omega)
  obtain ⟨p2, t2⟩ := r2
  have hF2 := fun w h1 h2 => rfew5_any s2 (.slice A2 l2.length C2) (.slice D2 m2.length E2) l2 m2 3 w h1 h2 (by omega)
  obtain ⟨p3, t3⟩ := r3
  have hF3 := fun w h1 h2 => rfew5_any s3 (.slice A3 l3.length C3) (.slice D3 m3.length E3) l3 m3 3 w h1 h2 (by omega)
  rw [f1] at hF1
  rw [f2] at hF2
  rw [f3] at hF3
  subst n1
  subst n2
  subst n3
  clear _hb _hnr f1 f2 f3
  obtain ⟨g, hg⟩ : ∃ g, g = w.heap.size := ⟨_, rfl⟩
  obtain ⟨Y0, eY0, hL, bY0⟩ := box1 w 52 #[.bool false, .slice A1 l1.length C1, .slice D1 m1.length E1, .bool false, .slice A2 l2.length C2, .slice D2 m2.length E2, .bool true, .slice A3 l3.length C3, .slice D3 m3.length E3]
  have zY0 : Y0.heap.size = g + 1 := by rw [eY0, World.size_alloc, ← hg]
  rw [← hg] at hL
  replace p1 := p1.below bY0
  replace t1 := t1.below bY0
  replace p2 := p2.below bY0
  replace t2 := t2.below bY0
  replace p3 := p3.below bY0
  replace t3 := t3.below bY0
  have hB := bY0
  obtain ⟨Y1, eY1, hW, bY1⟩ := box1 Y0 34 #[.int .i64 beta, .int .i64 f]
  have zY1 : Y1.heap.size = g + 1 + 1 := by rw [eY1, World.size_alloc, zY0]
  rw [zY0] at hW
  replace hL := hL.below bY1 hL.lt
  replace p1 := p1.below bY1
  replace t1 := t1.below bY1
  replace p2 := p2.below bY1
  replace t2 := t2.below bY1
  replace p3 := p3.below bY1
  replace t3 := t3.below bY1
  replace hB := hB.trans (bY1.mono hB.size)
  have hgw : w.heap.size ≤ g := by omega
  have EY := Lib.hid (And.intro hg (And.intro eY0 eY1))
  clear hg eY0 zY0 eY1 zY1
  obtain ⟨c0, c1, c2, c3, c4, c5, c6, c7, c8⟩ := hL.q9
  obtain ⟨c9, c10⟩ := hW.q2
  go_enter Tryz.func4, Tryz.ntmps4
  go_upto_region 1 with fail
  rw [← EY.out.2.1, ← EY.out.2.2, ← EY.out.1]
  replace hB := hB.drew
  replace p1 := p1.below (bdrew _)
  replace t1 := t1.below (bdrew _)
  replace p2 := p2.below (bdrew _)
  replace t2 := t2.below (bdrew _)
  replace p3 := p3.below (bdrew _)
  replace t3 := t3.below (bdrew _)
  replace hL := hL.drew
  replace hW := hW.drew
  clear c0 c1 c2 c3 c4 c5 c6 c7 c8 c9 c10
  refine wp_region_noPanic ?_
  refine wp_region_held_drew (S := fun w' => w'.cell? ⟨g + 1, 0, none⟩ = some (.int .i64 beta) ∧ w'.cell? ⟨g + 1, 1, none⟩ = some (.int .i64 f)) (by kernel_rfl) ?_ (fun hHeld => ?_)
  · exact ⟨hW.cell 0, hW.cell 1⟩
  obtain ⟨wd1_1, hwd⟩ : ∃ q, q = Y1.drew := ⟨_, rfl⟩
  rw [← hwd] at hB p1 t1 p2 t2 p3 t3 hL hW hHeld ⊢
  clear hwd
  refine tkH 0 rfl (v := ?v31) ?h31 ?r31
  case h31 => intro w hSw; (try dsimp only at hSw); go_simp; try (with_reducible rfl)
  refine tkH 1 rfl (v := ?v32) ?h32 ?r32
  case h32 => intro w hSw; (try dsimp only at hSw); go_simp; try (with_reducible rfl)
  refine tkH 2 rfl (v := ?v33) ?h33 ?r33
  case h33 => intro w hSw; (try dsimp only at hSw); go_simp; try (with_reducible rfl)
  refine tkH 3 rfl (v := ?v34) ?h34 ?r34
  case h34 => intro w hSw; (try dsimp only at hSw); go_simp; try (with_reducible rfl)
  refine tkH 4 rfl (v := ?v35) ?h35 ?r35
  case h35 => intro w hSw; (try dsimp only at hSw); go_simp; try (with_reducible rfl)
  refine tkH 5 rfl (v := ?v36) ?h36 ?r36
  case h36 => intro w hSw; (try dsimp only at hSw); go_simp; try (with_reducible rfl)
  try simp only [Act.put, lay1, lay2, lay3, lay4, lay5, lay6]
  try dsimp only
  try simp only [Act.put, lay1, lay2, lay3, lay4, lay5, lay6]
  refine wpAnyH_done (by kernel_rfl) ?_ _
  refine NoPanic.normal ?_
  skip
  obtain ⟨c11, c12, c13, c14, c15, c16, c17, c18, c19⟩ := hL.q9
  obtain ⟨c20, c21⟩ := hW.q2
  go_wp2_with fail
  go_loopw [9] (fun i wr => (i = .int .i64 0 ∨ i = .int .i64 1 ∨ i = .int .i64 2) ∧ Below wd1_1.heap.size wd1_1 wr) (fun i _ => (3 - RowKit.intOf i).toNat)
  case atStart => exact ⟨.inl rfl, Below.refl _ _⟩
  case round =>
    obtain ⟨hc, bl⟩ := hrel
    replace p1 := p1.below bl
    replace t1 := t1.below bl
    replace p2 := p2.below bl
    replace t2 := t2.below bl
    replace p3 := p3.below bl
    replace t3 := t3.below bl
    replace hL := hL.below bl hL.lt
    replace hW := hW.below bl hW.lt
    replace hB := hB.trans (bl.mono hB.size)
    clear c11 c12 c13 c14 c15 c16 c17 c18 c19 c20 c21
    obtain ⟨c22, c23, c24, c25, c26, c27, c28, c29, c30⟩ := hL.q9
    obtain ⟨c31, c32⟩ := hW.q2
    rcases hc with rfl | rfl | rfl
    · go_wp2_with fail
      refine (hF1 _ p1 t1).mono ?_
      rintro e w5 ⟨rfl, b5⟩
      replace p1 := p1.below b5
      replace t1 := t1.below b5
      replace p2 := p2.below b5
      replace t2 := t2.below b5
      replace p3 := p3.below b5
      replace t3 := t3.below b5
      replace hL := hL.below b5 hL.lt
      replace hW := hW.below b5 hW.lt
      replace hB := hB.trans (b5.mono hB.size)
      clear c22 c23 c24 c25 c26 c27 c28 c29 c30 c31 c32
      obtain ⟨c33, c34, c35, c36, c37, c38, c39, c40, c41⟩ := hL.q9
      obtain ⟨c42, c43⟩ := hW.q2
      go_wp2
      exact ⟨⟨.inr (.inl rfl), bl.trans (b5.mono bl.size)⟩, by simp [RowKit.intOf]⟩
    · go_wp2_with fail
      refine (hF2 _ p2 t2).mono ?_
      rintro e w5 ⟨rfl, b5⟩
      replace p1 := p1.below b5
      replace t1 := t1.below b5
      replace p2 := p2.below b5
      replace t2 := t2.below b5
      replace p3 := p3.below b5
      replace t3 := t3.below b5
      replace hL := hL.below b5 hL.lt
      replace hW := hW.below b5 hW.lt
      replace hB := hB.trans (b5.mono hB.size)
      clear c22 c23 c24 c25 c26 c27 c28 c29 c30 c31 c32
      obtain ⟨c33, c34, c35, c36, c37, c38, c39, c40, c41⟩ := hL.q9
      obtain ⟨c42, c43⟩ := hW.q2
      go_wp2
      exact ⟨⟨.inr (.inr (rfl)), bl.trans (b5.mono bl.size)⟩, by simp [RowKit.intOf]⟩
    · go_wp2_with fail
      refine (hF3 _ p3 t3).mono ?_
      rintro e w5 ⟨rfl, b5⟩
      replace p1 := p1.below b5
      replace t1 := t1.below b5
      replace p2 := p2.below b5
      replace t2 := t2.below b5
      replace p3 := p3.below b5
      replace t3 := t3.below b5
      replace hL := hL.below b5 hL.lt
      replace hW := hW.below b5 hW.lt
      replace hB := hB.trans (b5.mono hB.size)
      clear c22 c23 c24 c25 c26 c27 c28 c29 c30 c31 c32
      obtain ⟨c33, c34, c35, c36, c37, c38, c39, c40, c41⟩ := hL.q9
      obtain ⟨c42, c43⟩ := hW.q2
      go_wp2_with fail
      refine (hA _).mono ?_
      rintro e w7 ⟨rfl, b7⟩
      replace p1 := p1.below b7
      replace t1 := t1.below b7
      replace p2 := p2.below b7
      replace t2 := t2.below b7
      replace p3 := p3.below b7
      replace t3 := t3.below b7
      replace hL := hL.below b7 hL.lt
      replace hW := hW.below b7 hW.lt
      replace hB := hB.trans (b7.mono hB.size)
      clear c33 c34 c35 c36 c37 c38 c39 c40 c41 c42 c43
      obtain ⟨c44, c45, c46, c47, c48, c49, c50, c51, c52⟩ := hL.q9
      obtain ⟨c53, c54⟩ := hW.q2
      go_wp2
      go_ret
      exact ⟨rfl, hB⟩
set_option maxRecDepth 100000 in
set_option maxHeartbeats 8000000 in
theorem TrackUp_bad (s1 s2 s3 : Bool) (A1 D1 A2 D2 A3 D3 : Option Addr) (C1 E1 C2 E2 C3 E3 : Nat) (l1 m1 l2 m2 l3 m3 : List Nat) (beta f near : Int) (w : World) (r1 : RawQ w s1 (.slice A1 l1.length C1) (.slice D1 m1.length E1) l1 m1) (r2 : RawQ w s2 (.slice A2 l2.length C2) (.slice D2 m2.length E2) l2 m2) (r3 : RawQ w s3 (.slice A3 l3.length C3) (.slice D3 m3.length E3) l3 m3) (hb : In64 beta) (_hnr : In64 near) (f1 : fewQ s1 l1 m1 3 = true) (n1 : s1 = false) (f2 : fewQ s2 l2 m2 3 = true) (n2 : s2 = false) (f3 : fewQ s3 l3 m3 3 = true) (n3 : s3 = false) (hbn : nextBad beta f (theQ s1 l1 m1) (theQ s2 l2 m2) = true) :
    Calls Tryz.prog 4 #[.agg #[.bool s1, .slice A1 l1.length C1, .slice D1 m1.length E1, .bool s2, .slice A2 l2.length C2, .slice D2 m2.length E2, .bool s3, .slice A3 l3.length C3, .slice D3 m3.length E3], .agg #[.int .i64 beta, .int .i64 f], .int .i64 near] w fun e w' => e = .returned (.bool true) ∧ Below w.heap.size w w' := by
  have hA := fun w => alive20_any w
  obtain ⟨p1, t1⟩ := r1
  have hF1 := fun w h1 h2 => rfew5_any s1 (.slice A1 l1.length C1) (.slice D1 m1.length E1) l1 m1 3 w h1 h2 (by omega)
  obtain ⟨p2, t2⟩ := r2
  have hF2 := fun w h1 h2 => rfew5_any s2 (.slice A2 l2.length C2) (.slice D2 m2.length E2) l2 m2 3 w h1 h2 (by omega)
  obtain ⟨p3, t3⟩ := r3
  have hF3 := fun w h1 h2 => rfew5_any s3 (.slice A3 l3.length C3) (.slice D3 m3.length E3) l3 m3 3 w h1 h2 (by omega)
  rw [f1] at hF1
  subst n1
  unfold fewQ at f1
  simp only [Bool.and_eq_true, decide_eq_true_eq] at f1
  obtain ⟨q1, b1, n1, -⟩ := isQ_of p1 t1 f1.2.2
  replace b1 := b1.more (m := 100) (by omega)
  have y1n : 0 ≤ theQ false l1 m1 := by rw [← Rat.num_nonneg, n1]; simp [sided]
  rw [f2] at hF2
  subst n2
  unfold fewQ at f2
  simp only [Bool.and_eq_true, decide_eq_true_eq] at f2
  obtain ⟨q2, b2, n2, -⟩ := isQ_of p2 t2 f2.2.2
  replace b2 := b2.more (m := 100) (by omega)
  have y2n : 0 ≤ theQ false l2 m2 := by rw [← Rat.num_nonneg, n2]; simp [sided]
  rw [f3] at hF3
  subst n3
  unfold fewQ at f3
  simp only [Bool.and_eq_true, decide_eq_true_eq] at f3
  obtain ⟨q3, b3, n3, -⟩ := isQ_of p3 t3 f3.2.2
  replace b3 := b3.more (m := 100) (by omega)
  have y3n : 0 ≤ theQ false l3 m3 := by rw [← Rat.num_nonneg, n3]; simp [sided]
  clear n1 n2 n3 f1 f2 f3
  generalize theQ false l1 m1 = y1 at *
  generalize theQ false l2 m2 = y2 at *
  generalize theQ false l3 m3 = y3 at *
  have d1 : decide (y1.num < 0) = false := decide_eq_false (by rw [num_neg_iff, Rat.not_lt]; exact y1n)
  have d2 : decide (y2.num < 0) = false := decide_eq_false (by rw [num_neg_iff, Rat.not_lt]; exact y2n)
  have d13 : decide ((y1 + y3).num < 0) = false := decide_eq_false (by rw [num_neg_iff, Rat.not_lt]; exact Rat.add_nonneg y1n y3n)
  have b13 := b1.add b3
  have hAd := fun u v w hu hv => rqadd_any u v y1 y3 w hu hv (b1.more (by omega)) (b3.more (by omega))
  have enb : nextBad beta f (y1 + y3) y2 = nextBad beta f y1 y2 := by unfold nextBad; rw [d1, d13]
  have hN1 := fun u v w hu hv => pnext_res beta f u v y1 y2 w hb hu hv (b1.more (by omega)) (b2.more (by omega))
  have hN2 := fun u v w hu hv => pnext_res beta f u v (y1 + y3) y2 w hb hu hv (b13.more (by omega)) (b2.more (by omega))
  rw [enb] at hN2
  have hAr := fun u w hu => paround_res beta f u y1 w hb hu (b1.more (by omega))
  rw [hbn] at hN1 hN2
  have e0 : errOf true = 1 := rfl
  rw [e0] at hN1 hN2
  generalize nextQ beta f.toNat y1 y2 = rx at *
  generalize nextQ beta f.toNat (y1 + y3) y2 = ry at *
  generalize mkRat beta (2 ^ f.toNat) - y1 * mkRat 1 (2 ^ f.toNat) = rlo at *
  generalize mkRat beta (2 ^ f.toNat) + y1 * mkRat 1 (2 ^ f.toNat) = rhi at *
  generalize arBad f y1 = ba at *
  generalize errOf ba = ea at *
  generalize y1 + y3 = y13 at *
  clear e0 hbn enb d1 d2 d13 y1n y2n y3n b1 b2 b3 b13 hb _hnr
  obtain ⟨g, hg⟩ : ∃ g, g = w.heap.size := ⟨_, rfl⟩
  obtain ⟨Y0, eY0, hL, bY0⟩ := box1 w 52 #[.bool false, .slice A1 l1.length C1, .slice D1 m1.length E1, .bool false, .slice A2 l2.length C2, .slice D2 m2.length E2, .bool false, .slice A3 l3.length C3, .slice D3 m3.length E3]
  have zY0 : Y0.heap.size = g + 1 := by rw [eY0, World.size_alloc, ← hg]
  rw [← hg] at hL
  replace q1 := q1.below bY0
  replace q2 := q2.below bY0
  replace q3 := q3.below bY0
  replace p1 := p1.below bY0
  replace t1 := t1.below bY0
  replace p2 := p2.below bY0
  replace t2 := t2.below bY0
  replace p3 := p3.below bY0
  replace t3 := t3.below bY0
  have hB := bY0
  obtain ⟨Y1, eY1, hW, bY1⟩ := box1 Y0 34 #[.int .i64 beta, .int .i64 f]
  have zY1 : Y1.heap.size = g + 1 + 1 := by rw [eY1, World.size_alloc, zY0]
  rw [zY0] at hW
  replace hL := hL.below bY1 hL.lt
  replace q1 := q1.below bY1
  replace q2 := q2.below bY1
  replace q3 := q3.below bY1
  replace p1 := p1.below bY1
  replace t1 := t1.below bY1
  replace p2 := p2.below bY1
  replace t2 := t2.below bY1
  replace p3 := p3.below bY1
  replace t3 := t3.below bY1
  replace hB := hB.trans (bY1.mono hB.size)
  have hgw : w.heap.size ≤ g := by omega
  have EY := Lib.hid (And.intro hg (And.intro eY0 eY1))
  clear hg eY0 zY0 eY1 zY1
  obtain ⟨c0, c1, c2, c3, c4, c5, c6, c7, c8⟩ := hL.q9
  obtain ⟨c9, c10⟩ := hW.q2
  go_enter Tryz.func4, Tryz.ntmps4
  go_upto_region 1 with fail
  rw [← EY.out.2.1, ← EY.out.2.2, ← EY.out.1]
  replace hB := hB.drew
  replace q1 := q1.below (bdrew _)
  replace q2 := q2.below (bdrew _)
  replace q3 := q3.below (bdrew _)
  replace p1 := p1.below (bdrew _)
  replace t1 := t1.below (bdrew _)
  replace p2 := p2.below (bdrew _)
  replace t2 := t2.below (bdrew _)
  replace p3 := p3.below (bdrew _)
  replace t3 := t3.below (bdrew _)
  replace hL := hL.drew
  replace hW := hW.drew
  clear c0 c1 c2 c3 c4 c5 c6 c7 c8 c9 c10
  refine wp_region_noPanic ?_
  refine wp_region_held_drew (S := fun w' => w'.cell? ⟨g + 1, 0, none⟩ = some (.int .i64 beta) ∧ w'.cell? ⟨g + 1, 1, none⟩ = some (.int .i64 f)) (by kernel_rfl) ?_ (fun hHeld => ?_)
  · exact ⟨hW.cell 0, hW.cell 1⟩
  obtain ⟨wd1_1, hwd⟩ : ∃ q, q = Y1.drew := ⟨_, rfl⟩
  rw [← hwd] at hB q1 q2 q3 p1 t1 p2 t2 p3 t3 hL hW hHeld ⊢
  clear hwd
  refine tkH 0 rfl (v := ?v37) ?h37 ?r37
  case h37 => intro w hSw; (try dsimp only at hSw); go_simp; try (with_reducible rfl)
  refine tkH 1 rfl (v := ?v38) ?h38 ?r38
  case h38 => intro w hSw; (try dsimp only at hSw); go_simp; try (with_reducible rfl)
  refine tkH 2 rfl (v := ?v39) ?h39 ?r39
  case h39 => intro w hSw; (try dsimp only at hSw); go_simp; try (with_reducible rfl)
  refine tkH 3 rfl (v := ?v40) ?h40 ?r40
  case h40 => intro w hSw; (try dsimp only at hSw); go_simp; try (with_reducible rfl)
  refine tkH 4 rfl (v := ?v41) ?h41 ?r41
  case h41 => intro w hSw; (try dsimp only at hSw); go_simp; try (with_reducible rfl)
  refine tkH 5 rfl (v := ?v42) ?h42 ?r42
  case h42 => intro w hSw; (try dsimp only at hSw); go_simp; try (with_reducible rfl)
  try simp only [Act.put, lay1, lay2, lay3, lay4, lay5, lay6]
  try dsimp only
  try simp only [Act.put, lay1, lay2, lay3, lay4, lay5, lay6]
  refine wpAnyH_done (by kernel_rfl) ?_ _
  refine NoPanic.normal ?_
  skip
  obtain ⟨c11, c12, c13, c14, c15, c16, c17, c18, c19⟩ := hL.q9
  obtain ⟨c20, c21⟩ := hW.q2
  go_wp2_with fail
  go_loopw [9] (fun i wr => (i = .int .i64 0 ∨ i = .int .i64 1 ∨ i = .int .i64 2 ∨ i = .int .i64 3) ∧ Below wd1_1.heap.size wd1_1 wr) (fun i _ => (3 - RowKit.intOf i).toNat)
  case atStart => exact ⟨.inl rfl, Below.refl _ _⟩
  case round =>
    obtain ⟨hc, bl⟩ := hrel
    replace q1 := q1.below bl
    replace q2 := q2.below bl
    replace q3 := q3.below bl
    replace p1 := p1.below bl
    replace t1 := t1.below bl
    replace p2 := p2.below bl
    replace t2 := t2.below bl
    replace p3 := p3.below bl
    replace t3 := t3.below bl
    replace hL := hL.below bl hL.lt
    replace hW := hW.below bl hW.lt
    replace hB := hB.trans (bl.mono hB.size)
    clear c11 c12 c13 c14 c15 c16 c17 c18 c19 c20 c21
    obtain ⟨c22, c23, c24, c25, c26, c27, c28, c29, c30⟩ := hL.q9
    obtain ⟨c31, c32⟩ := hW.q2
    rcases hc with rfl | rfl | rfl | rfl
    · go_wp2_with fail
      refine (hF1 _ p1 t1).mono ?_
      rintro e w5 ⟨rfl, b5⟩
      replace q1 := q1.below b5
      replace q2 := q2.below b5
      replace q3 := q3.below b5
      replace p1 := p1.below b5
      replace t1 := t1.below b5
      replace p2 := p2.below b5
      replace t2 := t2.below b5
      replace p3 := p3.below b5
      replace t3 := t3.below b5
      replace hL := hL.below b5 hL.lt
      replace hW := hW.below b5 hW.lt
      replace hB := hB.trans (b5.mono hB.size)
      clear c22 c23 c24 c25 c26 c27 c28 c29 c30 c31 c32
      obtain ⟨c33, c34, c35, c36, c37, c38, c39, c40, c41⟩ := hL.q9
      obtain ⟨c42, c43⟩ := hW.q2
      go_wp2
      exact ⟨⟨.inr (.inl rfl), bl.trans (b5.mono bl.size)⟩, by simp [RowKit.intOf]⟩
    · go_wp2_with fail
      refine (hF2 _ p2 t2).mono ?_
      rintro e w5 ⟨rfl, b5⟩
      replace q1 := q1.below b5
      replace q2 := q2.below b5
      replace q3 := q3.below b5
      replace p1 := p1.below b5
      replace t1 := t1.below b5
      replace p2 := p2.below b5
      replace t2 := t2.below b5
      replace p3 := p3.below b5
      replace t3 := t3.below b5
      replace hL := hL.below b5 hL.lt
      replace hW := hW.below b5 hW.lt
      replace hB := hB.trans (b5.mono hB.size)
      clear c22 c23 c24 c25 c26 c27 c28 c29 c30 c31 c32
      obtain ⟨c33, c34, c35, c36, c37, c38, c39, c40, c41⟩ := hL.q9
      obtain ⟨c42, c43⟩ := hW.q2
      go_wp2
      exact ⟨⟨.inr (.inr (.inl rfl)), bl.trans (b5.mono bl.size)⟩, by simp [RowKit.intOf]⟩
    · go_wp2_with fail
      refine (hF3 _ p3 t3).mono ?_
      rintro e w5 ⟨rfl, b5⟩
      replace q1 := q1.below b5
      replace q2 := q2.below b5
      replace q3 := q3.below b5
      replace p1 := p1.below b5
      replace t1 := t1.below b5
      replace p2 := p2.below b5
      replace t2 := t2.below b5
      replace p3 := p3.below b5
      replace t3 := t3.below b5
      replace hL := hL.below b5 hL.lt
      replace hW := hW.below b5 hW.lt
      replace hB := hB.trans (b5.mono hB.size)
      clear c22 c23 c24 c25 c26 c27 c28 c29 c30 c31 c32
      obtain ⟨c33, c34, c35, c36, c37, c38, c39, c40, c41⟩ := hL.q9
      obtain ⟨c42, c43⟩ := hW.q2
      go_wp2
      exact ⟨⟨.inr (.inr (.inr (rfl))), bl.trans (b5.mono bl.size)⟩, by simp [RowKit.intOf]⟩
    · go_wp2_with fail
      refine (hN1 _ _ _ q1 q2).mono ?_
      rintro e w5 ⟨v4, rfl, x4, b5⟩
      replace q1 := q1.below b5
      replace q2 := q2.below b5
      replace q3 := q3.below b5
      replace hL := hL.below b5 hL.lt
      replace hW := hW.below b5 hW.lt
      replace hB := hB.trans (b5.mono hB.size)
      clear c22 c23 c24 c25 c26 c27 c28 c29 c30 c31 c32
      obtain ⟨c33, c34, c35, c36, c37, c38, c39, c40, c41⟩ := hL.q9
      obtain ⟨c42, c43⟩ := hW.q2
      obtain ⟨s4, A4, L4, C4, D4, M4, E4, rfl, x4⟩ := x4.opn
      clear x4
      obtain ⟨V7, eV, h4, bV7⟩ := box1 w5 32 #[.bool s4, .slice A4 L4 C4, .slice D4 M4 E4]
      obtain ⟨X7, eX⟩ : ∃ X, X = w5.heap.size := ⟨_, rfl⟩
      rw [← eX] at h4
      have lX7 : w.heap.size ≤ X7 := by rw [eX]; exact hB.size
      have dX7_hL : g ≠ X7 := by have := hL.lt; omega
      have dX7_hW : g + 1 ≠ X7 := by have := hW.lt; omega
      have EV7 := Lib.hid (And.intro eV eX)
      clear eV eX
      go_upto_region 8 with fail
      rw [← EV7.out.1, ← EV7.out.2]
      replace q1 := q1.below bV7
      replace q2 := q2.below bV7
      replace q3 := q3.below bV7
      replace hL := hL.below bV7 hL.lt
      replace hW := hW.below bV7 hW.lt
      replace hB := hB.trans (bV7.mono hB.size)
      clear c33 c34 c35 c36 c37 c38 c39 c40 c41 c42 c43
      obtain ⟨c44, c45, c46, c47, c48, c49, c50, c51, c52⟩ := hL.q9
      obtain ⟨c53, c54⟩ := hW.q2
      obtain ⟨c55, c56, c57⟩ := h4.q3
      replace hB := hB.drew
      replace q1 := q1.below (bdrew _)
      replace q2 := q2.below (bdrew _)
      replace q3 := q3.below (bdrew _)
      replace hL := hL.drew
      replace hW := hW.drew
      replace h4 := h4.drew
      clear c44 c45 c46 c47 c48 c49 c50 c51 c52 c53 c54 c55 c56 c57
      go_cut [12, 13] (fun s12 s13 wx => ∃ XA s6 A6 L6 C6 D6 M6 E6, s12 = .pointer (some ⟨XA, 0, none⟩) ∧ s13 = .int .i64 1 ∧ IsQ wx (.agg #[.bool false, .slice A1 l1.length C1, .slice D1 m1.length E1]) y1 ∧ IsQ wx (.agg #[.bool false, .slice A2 l2.length C2, .slice D2 m2.length E2]) y2 ∧ Blk wx g 52 #[.bool false, .slice A1 l1.length C1, .slice D1 m1.length E1, .bool false, .slice A2 l2.length C2, .slice D2 m2.length E2, .bool false, .slice A3 l3.length C3, .slice D3 m3.length E3] ∧ Blk wx X7 32 #[.bool s4, .slice A4 L4 C4, .slice D4 M4 E4] ∧ Blk wx XA 32 #[.bool s6, .slice A6 L6 C6, .slice D6 M6 E6] ∧ Below w.heap.size w wx ∧ w.heap.size ≤ XA ∧ g ≠ XA ∧ X7 ≠ XA)
      case first =>
        refine wp_region_noPanic ?_
        refine wp_region_held_drew (S := fun w' => w'.cell? ⟨g, 0, none⟩ = some (.bool false) ∧ w'.cell? ⟨g, 1, none⟩ = some (.slice A1 l1.length C1) ∧ w'.cell? ⟨g, 2, none⟩ = some (.slice D1 m1.length E1) ∧ w'.cell? ⟨g, 3, none⟩ = some (.bool false) ∧ w'.cell? ⟨g, 4, none⟩ = some (.slice A2 l2.length C2) ∧ w'.cell? ⟨g, 5, none⟩ = some (.slice D2 m2.length E2) ∧ w'.cell? ⟨g, 6, none⟩ = some (.bool false) ∧ w'.cell? ⟨g, 7, none⟩ = some (.slice A3 l3.length C3) ∧ w'.cell? ⟨g, 8, none⟩ = some (.slice D3 m3.length E3)) (by kernel_rfl) ?_ (fun hHeld => ?_)
        · exact ⟨hL.cell 0, hL.cell 1, hL.cell 2, hL.cell 3, hL.cell 4, hL.cell 5, hL.cell 6, hL.cell 7, hL.cell 8⟩
        obtain ⟨wd8_2, hwd⟩ : ∃ q, q = V7.drew := ⟨_, rfl⟩
        rw [← hwd] at hB q1 q2 q3 hL hW h4 hHeld ⊢
        clear hwd
        refine tkH 0 rfl (v := ?v43) ?h43 ?r43
        case h43 => intro w hSw; (try dsimp only at hSw); go_simp; try (with_reducible rfl)
        refine tkH 1 rfl (v := ?v44) ?h44 ?r44
        case h44 => intro w hSw; (try dsimp only at hSw); go_simp; try (with_reducible rfl)
        refine tkH 2 rfl (v := ?v45) ?h45 ?r45
        case h45 => intro w hSw; (try dsimp only at hSw); go_simp; try (with_reducible rfl)
        refine tkH 3 rfl (v := ?v46) ?h46 ?r46
        case h46 => intro w hSw; (try dsimp only at hSw); go_simp; try (with_reducible rfl)
        refine tkH 4 rfl (v := ?v47) ?h47 ?r47
        case h47 => intro w hSw; (try dsimp only at hSw); go_simp; try (with_reducible rfl)
        refine tkH 5 rfl (v := ?v48) ?h48 ?r48
        case h48 => intro w hSw; (try dsimp only at hSw); go_simp; try (with_reducible rfl)
        refine tkH 7 rfl (v := ?v49) ?h49 ?r49
        case h49 => intro w hSw; (try dsimp only at hSw); go_simp; try (with_reducible rfl)
        refine tkH 8 rfl (v := ?v50) ?h50 ?r50
        case h50 => intro w hSw; (try dsimp only at hSw); go_simp; try (with_reducible rfl)
        try simp only [Act.put, lay1, lay2, lay3, lay4, lay5, lay6]
        refine wpAnyH_ready (rs := [6, 13]) (by kernel_rfl) (by simp) (AllReadyH.cons rfl (fun K hK => ?_) (AllReadyH.cons rfl (fun K hK => ?_) AllReadyH.nil))
        · go_simp
          refine (hAd _ _ _ q1 q3).mono ?_
          rintro e u8_1 ⟨v5, rfl, q5, b8_1⟩
          replace q1 := q1.below b8_1
          replace q2 := q2.below b8_1
          replace q3 := q3.below b8_1
          replace hL := hL.below b8_1 hL.lt
          replace hW := hW.below b8_1 hW.lt
          replace h4 := h4.below b8_1 h4.lt
          replace hB := hB.trans (b8_1.mono hB.size)
          obtain ⟨s5, A5, L5, C5, D5, M5, E5, rfl, q5⟩ := q5.opn
          go_wp2_with fail
          refine hK.out _ _ ?_ (fun hHeld => ?_)
          · exact ⟨hL.cell 0, hL.cell 1, hL.cell 2, hL.cell 3, hL.cell 4, hL.cell 5, hL.cell 6, hL.cell 7, hL.cell 8⟩
          clear hK K
          try simp only [Act.put, lay1, lay2, lay3, lay4, lay5, lay6]
          refine wpAnyH_ready (rs := [9, 13]) (by kernel_rfl) (by simp) (AllReadyH.cons rfl (fun K hK => ?_) (AllReadyH.cons rfl (fun K hK => ?_) AllReadyH.nil))
          · go_simp
            refine (hN2 _ _ _ q5 q2).mono ?_
            rintro e u8_2 ⟨v6, rfl, x6, b8_2⟩
            replace q1 := q1.below b8_2
            replace q2 := q2.below b8_2
            replace q3 := q3.below b8_2
            replace hL := hL.below b8_2 hL.lt
            replace hW := hW.below b8_2 hW.lt
            replace h4 := h4.below b8_2 h4.lt
            replace q5 := q5.below b8_2
            replace hB := hB.trans (b8_2.mono hB.size)
            obtain ⟨s6, A6, L6, C6, D6, M6, E6, rfl, x6⟩ := x6.opn
            clear x6
            go_wp2_with fail
            refine hK.out _ _ ?_ (fun hHeld => ?_)
            · exact ⟨hL.cell 0, hL.cell 1, hL.cell 2, hL.cell 3, hL.cell 4, hL.cell 5, hL.cell 6, hL.cell 7, hL.cell 8⟩
            clear hK K
            refine tkH 10 rfl (v := ?v51) ?h51 ?r51
            case h51 => intro w hSw; (try dsimp only at hSw); go_simp; try (with_reducible rfl)
            refine tkH 11 rfl (v := ?v52) ?h52 ?r52
            case h52 => intro w hSw; (try dsimp only at hSw); go_simp; try (with_reducible rfl)
            refine tkH 12 rfl (v := ?v53) ?h53 ?r53
            case h53 => intro w hSw; (try dsimp only at hSw); go_simp; try (with_reducible rfl)
            try simp only [Act.put, lay1, lay2, lay3, lay4, lay5, lay6]
            refine wpAnyH_ready (rs := [13]) (by kernel_rfl) (by simp) (AllReadyH.cons rfl (fun K hK => ?_) AllReadyH.nil)
            obtain ⟨u8_3, eu, h6, b8_3⟩ := box1 u8_2 32 #[.bool false, .slice none 0 0, .slice none 0 0]
            obtain ⟨XA, en⟩ : ∃ X, X = u8_2.heap.size := ⟨_, rfl⟩
            rw [← en] at h6
            have lXA : w.heap.size ≤ XA := by rw [en]; exact hB.size
            have dXA_hL : g ≠ XA := by have := hL.lt; omega
            have dXA_hW : g + 1 ≠ XA := by have := hW.lt; omega
            have dXA_h4 : X7 ≠ XA := by have := h4.lt; omega
            have EUXA := Lib.hid (And.intro eu en)
            clear eu en
            go_simp
            rw [← EUXA.out.1, ← EUXA.out.2]
            replace q1 := q1.below b8_3
            replace q2 := q2.below b8_3
            replace q3 := q3.below b8_3
            replace hL := hL.below b8_3 hL.lt
            replace hW := hW.below b8_3 hW.lt
            replace h4 := h4.below b8_3 h4.lt
            replace q5 := q5.below b8_3
            replace hB := hB.trans (b8_3.mono hB.size)
            refine hK.out _ _ ?_ (fun hHeld => ?_)
            · exact ⟨hL.cell 0, hL.cell 1, hL.cell 2, hL.cell 3, hL.cell 4, hL.cell 5, hL.cell 6, hL.cell 7, hL.cell 8⟩
            clear hK K
            try simp only [Act.put, lay1, lay2, lay3, lay4, lay5, lay6]
            refine wpAnyH_ready (rs := [14]) (by kernel_rfl) (by simp) (AllReadyH.cons rfl (fun K hK => ?_) AllReadyH.nil)
            obtain ⟨u8_4, eu, h6', kz, kb, kB⟩ := fill3 h6 (.bool s6) (.slice A6 L6 C6) (.slice D6 M6 E6) (by simp [noU])
            have x0 : World.cell? _ ⟨XA, 0, none⟩ = some (.bool false) := h6.cell 0
            have x1 : World.cell? _ ⟨XA, 1, none⟩ = some (.slice none 0 0) := h6.cell 1
            have x2 : World.cell? _ ⟨XA, 2, none⟩ = some (.slice none 0 0) := h6.cell 2
            have xf := h6.frozen
            go_simp
            rw [← eu]
            replace q1 := q1.filled kz
            replace q2 := q2.filled kz
            replace q3 := q3.filled kz
            replace hL := kb _ _ _ hL (by omega)
            replace hW := kb _ _ _ hW (by omega)
            replace h4 := kb _ _ _ h4 (by omega)
            replace q5 := q5.filled kz
            replace hB := kB _ _ (by omega) hB
            replace h6 := h6'
            clear h6' kz kb kB eu xf x0 x1 x2
            refine hK.out _ _ ?_ (fun hHeld => ?_)
            · exact ⟨hL.cell 0, hL.cell 1, hL.cell 2, hL.cell 3, hL.cell 4, hL.cell 5, hL.cell 6, hL.cell 7, hL.cell 8⟩
            clear hK K
            refine tkH 15 rfl (v := ?v54) ?h54 ?r54
            case h54 => intro w hSw; (try dsimp only at hSw); go_simp; try (with_reducible rfl)
            try simp only [Act.put, lay1, lay2, lay3, lay4, lay5, lay6]
            try dsimp only
            try simp only [Act.put, lay1, lay2, lay3, lay4, lay5, lay6]
            refine wpAnyH_done (by kernel_rfl) ?_ _
            refine NoPanic.normal ?_
            go_wp2_with fail
            go_meet
            exact ⟨XA, s6, A6, L6, C6, D6, M6, E6, rfl, rfl, q1, q2, hL, h4, h6, hB, lXA, (by assumption), (by assumption)⟩
          · obtain ⟨u8_5, eu, h6, b8_5⟩ := box1 u8_1 32 #[.bool false, .slice none 0 0, .slice none 0 0]
            obtain ⟨XA, en⟩ : ∃ X, X = u8_1.heap.size := ⟨_, rfl⟩
            rw [← en] at h6
            have lXA : w.heap.size ≤ XA := by rw [en]; exact hB.size
            have dXA_hL : g ≠ XA := by have := hL.lt; omega
            have dXA_hW : g + 1 ≠ XA := by have := hW.lt; omega
            have dXA_h4 : X7 ≠ XA := by have := h4.lt; omega
            have EUXA := Lib.hid (And.intro eu en)
            clear eu en
            go_simp
            rw [← EUXA.out.1, ← EUXA.out.2]
            replace q1 := q1.below b8_5
            replace q2 := q2.below b8_5
            replace q3 := q3.below b8_5
            replace hL := hL.below b8_5 hL.lt
            replace hW := hW.below b8_5 hW.lt
            replace h4 := h4.below b8_5 h4.lt
            replace q5 := q5.below b8_5
            replace hB := hB.trans (b8_5.mono hB.size)
            refine hK.out _ _ ?_ (fun hHeld => ?_)
            · exact ⟨hL.cell 0, hL.cell 1, hL.cell 2, hL.cell 3, hL.cell 4, hL.cell 5, hL.cell 6, hL.cell 7, hL.cell 8⟩
            clear hK K
            try simp only [Act.put, lay1, lay2, lay3, lay4, lay5, lay6]
            refine wpAnyH_ready (rs := [9]) (by kernel_rfl) (by simp) (AllReadyH.cons rfl (fun K hK => ?_) AllReadyH.nil)
            go_simp
            refine (hN2 _ _ _ q5 q2).mono ?_
            rintro e u8_6 ⟨v6, rfl, x6, b8_6⟩
            replace q1 := q1.below b8_6
            replace q2 := q2.below b8_6
            replace q3 := q3.below b8_6
            replace hL := hL.below b8_6 hL.lt
            replace hW := hW.below b8_6 hW.lt
            replace h4 := h4.below b8_6 h4.lt
            replace q5 := q5.below b8_6
            replace h6 := h6.below b8_6 h6.lt
            replace hB := hB.trans (b8_6.mono hB.size)
            obtain ⟨s6, A6, L6, C6, D6, M6, E6, rfl, x6⟩ := x6.opn
            clear x6
            go_wp2_with fail
            refine hK.out _ _ ?_ (fun hHeld => ?_)
            · exact ⟨hL.cell 0, hL.cell 1, hL.cell 2, hL.cell 3, hL.cell 4, hL.cell 5, hL.cell 6, hL.cell 7, hL.cell 8⟩
            clear hK K
            refine tkH 10 rfl (v := ?v55) ?h55 ?r55
            case h55 => intro w hSw; (try dsimp only at hSw); go_simp; try (with_reducible rfl)
            refine tkH 11 rfl (v := ?v56) ?h56 ?r56
            case h56 => intro w hSw; (try dsimp only at hSw); go_simp; try (with_reducible rfl)
            refine tkH 12 rfl (v := ?v57) ?h57 ?r57
            case h57 => intro w hSw; (try dsimp only at hSw); go_simp; try (with_reducible rfl)
            try simp only [Act.put, lay1, lay2, lay3, lay4, lay5, lay6]
            refine wpAnyH_ready (rs := [14]) (by kernel_rfl) (by simp) (AllReadyH.cons rfl (fun K hK => ?_) AllReadyH.nil)
            obtain ⟨u8_7, eu, h6', kz, kb, kB⟩ := fill3 h6 (.bool s6) (.slice A6 L6 C6) (.slice D6 M6 E6) (by simp [noU])
            have x0 : World.cell? _ ⟨XA, 0, none⟩ = some (.bool false) := h6.cell 0
            have x1 : World.cell? _ ⟨XA, 1, none⟩ = some (.slice none 0 0) := h6.cell 1
            have x2 : World.cell? _ ⟨XA, 2, none⟩ = some (.slice none 0 0) := h6.cell 2
            have xf := h6.frozen
            go_simp
            rw [← eu]
            replace q1 := q1.filled kz
            replace q2 := q2.filled kz
            replace q3 := q3.filled kz
            replace hL := kb _ _ _ hL (by omega)
            replace hW := kb _ _ _ hW (by omega)
            replace h4 := kb _ _ _ h4 (by omega)
            replace q5 := q5.filled kz
            replace hB := kB _ _ (by omega) hB
            replace h6 := h6'
            clear h6' kz kb kB eu xf x0 x1 x2
            refine hK.out _ _ ?_ (fun hHeld => ?_)
            · exact ⟨hL.cell 0, hL.cell 1, hL.cell 2, hL.cell 3, hL.cell 4, hL.cell 5, hL.cell 6, hL.cell 7, hL.cell 8⟩
            clear hK K
            refine tkH 15 rfl (v := ?v58) ?h58 ?r58
            case h58 => intro w hSw; (try dsimp only at hSw); go_simp; try (with_reducible rfl)
            try simp only [Act.put, lay1, lay2, lay3, lay4, lay5, lay6]
            try dsimp only
            try simp only [Act.put, lay1, lay2, lay3, lay4, lay5, lay6]
            refine wpAnyH_done (by kernel_rfl) ?_ _
            refine NoPanic.normal ?_
            go_wp2_with fail
            go_meet
            exact ⟨XA, s6, A6, L6, C6, D6, M6, E6, rfl, rfl, q1, q2, hL, h4, h6, hB, lXA, (by assumption), (by assumption)⟩
        · obtain ⟨u8_8, eu, h6, b8_8⟩ := box1 wd8_2 32 #[.bool false, .slice none 0 0, .slice none 0 0]
          obtain ⟨XA, en⟩ : ∃ X, X = wd8_2.heap.size := ⟨_, rfl⟩
          rw [← en] at h6
          have lXA : w.heap.size ≤ XA := by rw [en]; exact hB.size
          have dXA_hL : g ≠ XA := by have := hL.lt; omega
          have dXA_hW : g + 1 ≠ XA := by have := hW.lt; omega
          have dXA_h4 : X7 ≠ XA := by have := h4.lt; omega
          have EUXA := Lib.hid (And.intro eu en)
          clear eu en
          go_simp
          rw [← EUXA.out.1, ← EUXA.out.2]
          replace q1 := q1.below b8_8
          replace q2 := q2.below b8_8
          replace q3 := q3.below b8_8
          replace hL := hL.below b8_8 hL.lt
          replace hW := hW.below b8_8 hW.lt
          replace h4 := h4.below b8_8 h4.lt
          replace hB := hB.trans (b8_8.mono hB.size)
          refine hK.out _ _ ?_ (fun hHeld => ?_)
          · exact ⟨hL.cell 0, hL.cell 1, hL.cell 2, hL.cell 3, hL.cell 4, hL.cell 5, hL.cell 6, hL.cell 7, hL.cell 8⟩
          clear hK K
          try simp only [Act.put, lay1, lay2, lay3, lay4, lay5, lay6]
          refine wpAnyH_ready (rs := [6]) (by kernel_rfl) (by simp) (AllReadyH.cons rfl (fun K hK => ?_) AllReadyH.nil)
          go_simp
          refine (hAd _ _ _ q1 q3).mono ?_
          rintro e u8_9 ⟨v5, rfl, q5, b8_9⟩
          replace q1 := q1.below b8_9
          replace q2 := q2.below b8_9
          replace q3 := q3.below b8_9
          replace hL := hL.below b8_9 hL.lt
          replace hW := hW.below b8_9 hW.lt
          replace h4 := h4.below b8_9 h4.lt
          replace h6 := h6.below b8_9 h6.lt
          replace hB := hB.trans (b8_9.mono hB.size)
          obtain ⟨s5, A5, L5, C5, D5, M5, E5, rfl, q5⟩ := q5.opn
          go_wp2_with fail
          refine hK.out _ _ ?_ (fun hHeld => ?_)
          · exact ⟨hL.cell 0, hL.cell 1, hL.cell 2, hL.cell 3, hL.cell 4, hL.cell 5, hL.cell 6, hL.cell 7, hL.cell 8⟩
          clear hK K
          try simp only [Act.put, lay1, lay2, lay3, lay4, lay5, lay6]
          refine wpAnyH_ready (rs := [9]) (by kernel_rfl) (by simp) (AllReadyH.cons rfl (fun K hK => ?_) AllReadyH.nil)
          go_simp
          refine (hN2 _ _ _ q5 q2).mono ?_
          rintro e u8_10 ⟨v6, rfl, x6, b8_10⟩
          replace q1 := q1.below b8_10
          replace q2 := q2.below b8_10
          replace q3 := q3.below b8_10
          replace hL := hL.below b8_10 hL.lt
          replace hW := hW.below b8_10 hW.lt
          replace h4 := h4.below b8_10 h4.lt
          replace h6 := h6.below b8_10 h6.lt
          replace q5 := q5.below b8_10
          replace hB := hB.trans (b8_10.mono hB.size)
          obtain ⟨s6, A6, L6, C6, D6, M6, E6, rfl, x6⟩ := x6.opn
          clear x6
          go_wp2_with fail
          refine hK.out _ _ ?_ (fun hHeld => ?_)
          · exact ⟨hL.cell 0, hL.cell 1, hL.cell 2, hL.cell 3, hL.cell 4, hL.cell 5, hL.cell 6, hL.cell 7, hL.cell 8⟩
          clear hK K
          refine tkH 10 rfl (v := ?v59) ?h59 ?r59
          case h59 => intro w hSw; (try dsimp only at hSw); go_simp; try (with_reducible rfl)
          refine tkH 11 rfl (v := ?v60) ?h60 ?r60
          case h60 => intro w hSw; (try dsimp only at hSw); go_simp; try (with_reducible rfl)
          refine tkH 12 rfl (v := ?v61) ?h61 ?r61
          case h61 => intro w hSw; (try dsimp only at hSw); go_simp; try (with_reducible rfl)
          try simp only [Act.put, lay1, lay2, lay3, lay4, lay5, lay6]
          refine wpAnyH_ready (rs := [14]) (by kernel_rfl) (by simp) (AllReadyH.cons rfl (fun K hK => ?_) AllReadyH.nil)
          obtain ⟨u8_11, eu, h6', kz, kb, kB⟩ := fill3 h6 (.bool s6) (.slice A6 L6 C6) (.slice D6 M6 E6) (by simp [noU])
          have x0 : World.cell? _ ⟨XA, 0, none⟩ = some (.bool false) := h6.cell 0
          have x1 : World.cell? _ ⟨XA, 1, none⟩ = some (.slice none 0 0) := h6.cell 1
          have x2 : World.cell? _ ⟨XA, 2, none⟩ = some (.slice none 0 0) := h6.cell 2
          have xf := h6.frozen
          go_simp
          rw [← eu]
          replace q1 := q1.filled kz
          replace q2 := q2.filled kz
          replace q3 := q3.filled kz
          replace hL := kb _ _ _ hL (by omega)
          replace hW := kb _ _ _ hW (by omega)
          replace h4 := kb _ _ _ h4 (by omega)
          replace q5 := q5.filled kz
          replace hB := kB _ _ (by omega) hB
          replace h6 := h6'
          clear h6' kz kb kB eu xf x0 x1 x2
          refine hK.out _ _ ?_ (fun hHeld => ?_)
          · exact ⟨hL.cell 0, hL.cell 1, hL.cell 2, hL.cell 3, hL.cell 4, hL.cell 5, hL.cell 6, hL.cell 7, hL.cell 8⟩
          clear hK K
          refine tkH 15 rfl (v := ?v62) ?h62 ?r62
          case h62 => intro w hSw; (try dsimp only at hSw); go_simp; try (with_reducible rfl)
          try simp only [Act.put, lay1, lay2, lay3, lay4, lay5, lay6]
          try dsimp only
          try simp only [Act.put, lay1, lay2, lay3, lay4, lay5, lay6]
          refine wpAnyH_done (by kernel_rfl) ?_ _
          refine NoPanic.normal ?_
          go_wp2_with fail
          go_meet
          exact ⟨XA, s6, A6, L6, C6, D6, M6, E6, rfl, rfl, q1, q2, hL, h4, h6, hB, lXA, (by assumption), (by assumption)⟩
      obtain ⟨XA, s6, A6, L6, C6, D6, M6, E6, rfl, rfl, q1, q2, hL, h4, h6, hB, lXA, dXA_hL, dXA_h4⟩ := hcut
      obtain ⟨c58, c59, c60, c61, c62, c63, c64, c65, c66⟩ := hL.q9
      obtain ⟨c67, c68, c69⟩ := h4.q3
      obtain ⟨c70, c71, c72⟩ := h6.q3
      go_wp2_with fail
      refine (hAr _ _ q1).mono ?_
      rintro e w10 ⟨v7, rfl, x7, b10⟩
      replace q1 := q1.below b10
      replace q2 := q2.below b10
      replace hL := hL.below b10 hL.lt
      replace h4 := h4.below b10 h4.lt
      replace h6 := h6.below b10 h6.lt
      replace hB := hB.trans (b10.mono hB.size)
      clear c58 c59 c60 c61 c62 c63 c64 c65 c66 c67 c68 c69 c70 c71 c72
      obtain ⟨c73, c74, c75, c76, c77, c78, c79, c80, c81⟩ := hL.q9
      obtain ⟨c82, c83, c84⟩ := h4.q3
      obtain ⟨c85, c86, c87⟩ := h6.q3
      obtain ⟨s7, A7, L7, C7, D7, M7, E7, s8, A8, L8, C8, D8, M8, E8, rfl, x7⟩ := x7.opn
      clear x7
      obtain ⟨V12, eV, h7, bV12⟩ := box1 w10 46 #[.bool s7, .slice A7 L7 C7, .slice D7 M7 E7, .bool s8, .slice A8 L8 C8, .slice D8 M8 E8]
      obtain ⟨X12, eX⟩ : ∃ X, X = w10.heap.size := ⟨_, rfl⟩
      rw [← eX] at h7
      have lX12 : w.heap.size ≤ X12 := by rw [eX]; exact hB.size
      have dX12_hL : g ≠ X12 := by have := hL.lt; omega
      have dX12_h4 : X7 ≠ X12 := by have := h4.lt; omega
      have dX12_h6 : XA ≠ X12 := by have := h6.lt; omega
      have EV12 := Lib.hid (And.intro eV eX)
      clear eV eX
      go_upto_region 10 with fail
      rw [← EV12.out.1, ← EV12.out.2]
      replace q1 := q1.below bV12
      replace q2 := q2.below bV12
      replace hL := hL.below bV12 hL.lt
      replace h4 := h4.below bV12 h4.lt
      replace h6 := h6.below bV12 h6.lt
      replace hB := hB.trans (bV12.mono hB.size)
      clear c73 c74 c75 c76 c77 c78 c79 c80 c81 c82 c83 c84 c85 c86 c87
      obtain ⟨c88, c89, c90, c91, c92, c93, c94, c95, c96⟩ := hL.q9
      obtain ⟨c97, c98, c99⟩ := h4.q3
      obtain ⟨c100, c101, c102⟩ := h6.q3
      obtain ⟨c103, c104, c105, c106, c107, c108⟩ := h7.q6
      go_wp2_with fail
      refine (hA _).mono ?_
      rintro e w14 ⟨rfl, b14⟩
      replace q1 := q1.below b14
      replace q2 := q2.below b14
      replace hL := hL.below b14 hL.lt
      replace h4 := h4.below b14 h4.lt
      replace h6 := h6.below b14 h6.lt
      replace h7 := h7.below b14 h7.lt
      replace hB := hB.trans (b14.mono hB.size)
      clear c88 c89 c90 c91 c92 c93 c94 c95 c96 c97 c98 c99 c100 c101 c102 c103 c104 c105 c106 c107 c108
      obtain ⟨c109, c110, c111, c112, c113, c114, c115, c116, c117⟩ := hL.q9
      obtain ⟨c118, c119, c120⟩ := h4.q3
      obtain ⟨c121, c122, c123⟩ := h6.q3
      obtain ⟨c124, c125, c126, c127, c128, c129⟩ := h7.q6
      go_wp2
      go_ret
      exact ⟨rfl, hB⟩
set_option maxRecDepth 100000 in
set_option maxHeartbeats 8000000 in
theorem TrackUp_good (s1 s2 s3 : Bool) (A1 D1 A2 D2 A3 D3 : Option Addr) (C1 E1 C2 E2 C3 E3 : Nat) (l1 m1 l2 m2 l3 m3 : List Nat) (beta f near : Int) (w : World) (r1 : RawQ w s1 (.slice A1 l1.length C1) (.slice D1 m1.length E1) l1 m1) (r2 : RawQ w s2 (.slice A2 l2.length C2) (.slice D2 m2.length E2) l2 m2) (r3 : RawQ w s3 (.slice A3 l3.length C3) (.slice D3 m3.length E3) l3 m3) (hb : In64 beta) (hnr : In64 near) (f1 : fewQ s1 l1 m1 3 = true) (n1 : s1 = false) (f2 : fewQ s2 l2 m2 3 = true) (n2 : s2 = false) (f3 : fewQ s3 l3 m3 3 = true) (n3 : s3 = false) (hbn : nextBad beta f (theQ s1 l1 m1) (theQ s2 l2 m2) = false) :
    Calls Tryz.prog 4 #[.agg #[.bool s1, .slice A1 l1.length C1, .slice D1 m1.length E1, .bool s2, .slice A2 l2.length C2, .slice D2 m2.length E2, .bool s3, .slice A3 l3.length C3, .slice D3 m3.length E3], .agg #[.int .i64 beta, .int .i64 f], .int .i64 near] w fun e w' => e = .returned (.bool true) ∧ Below w.heap.size w w' := by
  have hA := fun w => alive20_any w
  obtain ⟨p1, t1⟩ := r1
  have hF1 := fun w h1 h2 => rfew5_any s1 (.slice A1 l1.length C1) (.slice D1 m1.length E1) l1 m1 3 w h1 h2 (by omega)
  obtain ⟨p2, t2⟩ := r2
  have hF2 := fun w h1 h2 => rfew5_any s2 (.slice A2 l2.length C2) (.slice D2 m2.length E2) l2 m2 3 w h1 h2 (by omega)
  obtain ⟨p3, t3⟩ := r3
  have hF3 := fun w h1 h2 => rfew5_any s3 (.slice A3 l3.length C3) (.slice D3 m3.length E3) l3 m3 3 w h1 h2 (by omega)
  rw [f1] at hF1
  subst n1
  unfold fewQ at f1
  simp only [Bool.and_eq_true, decide_eq_true_eq] at f1
  obtain ⟨q1, b1, n1, -⟩ := isQ_of p1 t1 f1.2.2
  replace b1 := b1.more (m := 100) (by omega)
  have y1n : 0 ≤ theQ false l1 m1 := by rw [← Rat.num_nonneg, n1]; simp [sided]
  rw [f2] at hF2
  subst n2
  unfold fewQ at f2
  simp only [Bool.and_eq_true, decide_eq_true_eq] at f2
  obtain ⟨q2, b2, n2, -⟩ := isQ_of p2 t2 f2.2.2
  replace b2 := b2.more (m := 100) (by omega)
  have y2n : 0 ≤ theQ false l2 m2 := by rw [← Rat.num_nonneg, n2]; simp [sided]
  rw [f3] at hF3
  subst n3
  unfold fewQ at f3
  simp only [Bool.and_eq_true, decide_eq_true_eq] at f3
  obtain ⟨q3, b3, n3, -⟩ := isQ_of p3 t3 f3.2.2
  replace b3 := b3.more (m := 100) (by omega)
  have y3n : 0 ≤ theQ false l3 m3 := by rw [← Rat.num_nonneg, n3]; simp [sided]
  clear n1 n2 n3 f1 f2 f3
  generalize theQ false l1 m1 = y1 at *
  generalize theQ false l2 m2 = y2 at *
  generalize theQ false l3 m3 = y3 at *
  have d1 : decide (y1.num < 0) = false := decide_eq_false (by rw [num_neg_iff, Rat.not_lt]; exact y1n)
  have d2 : decide (y2.num < 0) = false := decide_eq_false (by rw [num_neg_iff, Rat.not_lt]; exact y2n)
  have d13 : decide ((y1 + y3).num < 0) = false := decide_eq_false (by rw [num_neg_iff, Rat.not_lt]; exact Rat.add_nonneg y1n y3n)
  have b13 := b1.add b3
  have hAd := fun u v w hu hv => rqadd_any u v y1 y3 w hu hv (b1.more (by omega)) (b3.more (by omega))
  have enb : nextBad beta f (y1 + y3) y2 = nextBad beta f y1 y2 := by unfold nextBad; rw [d1, d13]
  have hN1 := fun u v w hu hv => pnext_res beta f u v y1 y2 w hb hu hv (b1.more (by omega)) (b2.more (by omega))
  have hN2 := fun u v w hu hv => pnext_res beta f u v (y1 + y3) y2 w hb hu hv (b13.more (by omega)) (b2.more (by omega))
  rw [enb] at hN2
  have hAr := fun u w hu => paround_res beta f u y1 w hb hu (b1.more (by omega))
  obtain ⟨g0, g1, g2, -, -, -⟩ := nextBad_no hbn
  have hab : arBad f y1 = false := by unfold arBad; rw [d1, decide_eq_false (by omega)]; rfl
  obtain ⟨k, rfl⟩ : ∃ k : Nat, f = (k : Int) := ⟨f.toNat, by omega⟩
  have hk : k ≤ 40 := by omega
  rw [hbn] at hN1 hN2
  rw [hab] at hAr
  rw [Int.toNat_natCast] at hN1 hN2 hAr
  have e0 : errOf false = 0 := rfl
  rw [e0] at hN1 hN2 hAr
  simp only [ResQ, ResS, Bool.false_eq_true, if_false] at hN1 hN2 hAr
  have hRt := fun w => rrat_any beta k w hk hb
  have hRn := fun w => rrat_any near k w hk hnr
  have sh := sz_man hb hk
  have sn := sz_man hnr hk
  have h1' : In64 1 := ⟨by omega, by omega⟩
  have st := sz_man h1' hk
  have hM1 := fun u v w hu hv => rqmul_any u v (mkRat beta (2 ^ k)) y1 w hu hv (sh.more (by omega)) (b1.more (by omega))
  have sp := sh.mul b1
  have hA2 := fun u v w hu hv => rqadd_any u v (mkRat beta (2 ^ k) * y1) y2 w hu hv (sp.more (by omega)) (b2.more (by omega))
  have se := sp.add b2
  have sx : BQ (nextQ beta k y1 y2) 1000 := BQ.mk ((sz_cel (k := 20) se).more (by omega)) ((Sz.two_pow 20).more (by omega)) (by omega)
  have se3 := (sh.mul b13).add b2
  have sy : BQ (nextQ beta k (y1 + y3) y2) 3000 := BQ.mk ((sz_cel (k := 20) se3).more (by omega)) ((Sz.two_pow 20).more (by omega)) (by omega)
  have hSu := fun u v w hu hv => rqsub_any u v (nextQ beta k y1 y2) (mkRat beta (2 ^ k) * y1 + y2) w hu hv (sx.more (by omega)) (se.more (by omega))
  have sab : BQ (nextQ beta k y1 y2 - (mkRat beta (2 ^ k) * y1 + y2)) 4000 := by rw [Rat.sub_eq_add_neg]; exact (sx.add se.neg).more (by omega)
  have hFr := fun w => rfrac5_any 1 1048576 w ⟨by omega, by omega⟩ ⟨by omega, by omega⟩ (by omega)
  rw [show (1048576 : Int).natAbs = 1048576 from rfl] at hFr
  have sfr : BQ (mkRat 1 1048576) 1 := BQ.mk Sz.one (Sz.u64 (by unfold W64; omega)) (by omega)
  have hSt := fun u w hu => rsteps_any near k u (mkRat beta (2 ^ k)) w hk hnr hu (sh.more (by omega))
  have sst : BQ (stepsQ near k (mkRat beta (2 ^ k))) 3000 := by
    unfold stepsQ divQ
    have sd : BQ (mkRat near (2 ^ k) - mkRat beta (2 ^ k)) 200 := by rw [Rat.sub_eq_add_neg]; exact (sn.add sh.neg).more (by omega)
    have sd2 := sd.abs
    rw [decide_eq_false (by rw [num_neg_iff, Rat.not_lt]; exact Rat.le_of_lt (stepP k).1)]
    have hs : sided false (mkRat 1 (2 ^ k)).den = ((mkRat 1 (2 ^ k)).den : Int) := by simp [sided]
    rw [hs]
    exact BQ.mk ((sd2.1.imul (b := ((mkRat 1 (2 ^ k)).den : Int)) (by simpa using st.2)).more (by omega)) ((sd2.2.mul st.1).more (by omega)) (by omega)
  have hC1 := fun u v w hu hv => rqcmp_any u v (stepsQ near k (mkRat beta (2 ^ k))) y1 w hu hv (sst.more (by omega)) (b1.more (by omega))
  have hC2 := fun u v w hu hv => rqcmp_any u v (nextQ beta k y1 y2 - (mkRat beta (2 ^ k) * y1 + y2)) (mkRat 1 1048576) w hu hv (sab.more (by omega)) (sfr.more (by omega))
  have hC3 := fun u v w hu hv => rqcmp_any u v (nextQ beta k y1 y2) (nextQ beta k (y1 + y3) y2) w hu hv (sx.more (by omega)) (sy.more (by omega))
  have sby := b1.mul st
  have slo : BQ (mkRat beta (2 ^ k) - y1 * mkRat 1 (2 ^ k)) 1000 := by rw [Rat.sub_eq_add_neg]; exact (sh.add sby.neg).more (by omega)
  have shi := sh.add sby
  have hH1 := fun u v w hu hv => rshas_any u v (mkRat beta (2 ^ k) - y1 * mkRat 1 (2 ^ k)) (mkRat beta (2 ^ k) + y1 * mkRat 1 (2 ^ k)) (mkRat near (2 ^ k)) w hu hv (slo.more (by omega)) (shi.more (by omega)) (sn.more (by omega))
  have hH2 := fun u v w hu hv => rshas_any u v (mkRat beta (2 ^ k) - y1 * mkRat 1 (2 ^ k)) (mkRat beta (2 ^ k) + y1 * mkRat 1 (2 ^ k)) (mkRat beta (2 ^ k)) w hu hv (slo.more (by omega)) (shi.more (by omega)) (sh.more (by omega))
  rw [around_iff] at hH1
  rw [around_own _ _ _ y1n] at hH2
  obtain ⟨u1, u2⟩ := next_up beta k y1 y2
  have u3 := next_mono beta k y1 y2 y3 g2 y3n
  have u1' : decide ((nextQ beta k y1 y2 - (mkRat beta (2 ^ k) * y1 + y2)).num < 0) = false := decide_eq_false u1
  generalize cmpQ (stepsQ near k (mkRat beta (2 ^ k))) y1 = z1 at *
  generalize cmpQ (nextQ beta k y1 y2 - (mkRat beta (2 ^ k) * y1 + y2)) (mkRat 1 1048576) = z2 at *
  generalize cmpQ (nextQ beta k y1 y2) (nextQ beta k (y1 + y3) y2) = z3 at *
  have v2 : decide (z2 < 0) = true := decide_eq_true u2
  have v3 : decide (z3 ≤ 0) = true := decide_eq_true u3
  generalize stepsQ near k (mkRat beta (2 ^ k)) = rst at *
  generalize hab' : nextQ beta k y1 y2 - (mkRat beta (2 ^ k) * y1 + y2) = rab at *
  generalize nextQ beta k y1 y2 = rx at *
  generalize nextQ beta k (y1 + y3) y2 = ry at *
  generalize mkRat beta (2 ^ k) * y1 + y2 = re at *
  generalize mkRat beta (2 ^ k) * y1 = rp at *
  generalize mkRat beta (2 ^ k) - y1 * mkRat 1 (2 ^ k) = rlo at *
  generalize mkRat beta (2 ^ k) + y1 * mkRat 1 (2 ^ k) = rhi at *
  generalize mkRat beta (2 ^ k) = rsh at *
  generalize mkRat near (2 ^ k) = rnr at *
  generalize mkRat 1 1048576 = rfr at *
  generalize y1 + y3 = y13 at *
  clear u1 hab' e0 hab hbn enb d1 d2 d13 y1n y2n y3n b1 b2 b3 b13 sh sn st sp se sx se3 sy sab sfr sst sby slo shi hb hnr h1'
  obtain ⟨g, hg⟩ : ∃ g, g = w.heap.size := ⟨_, rfl⟩
  obtain ⟨Y0, eY0, hL, bY0⟩ := box1 w 52 #[.bool false, .slice A1 l1.length C1, .slice D1 m1.length E1, .bool false, .slice A2 l2.length C2, .slice D2 m2.length E2, .bool false, .slice A3 l3.length C3, .slice D3 m3.length E3]
  have zY0 : Y0.heap.size = g + 1 := by rw [eY0, World.size_alloc, ← hg]
  rw [← hg] at hL
  replace q1 := q1.below bY0
  replace q2 := q2.below bY0
  replace q3 := q3.below bY0
  replace p1 := p1.below bY0
  replace t1 := t1.below bY0
  replace p2 := p2.below bY0
  replace t2 := t2.below bY0
  replace p3 := p3.below bY0
  replace t3 := t3.below bY0
  have hB := bY0
  obtain ⟨Y1, eY1, hW, bY1⟩ := box1 Y0 34 #[.int .i64 beta, .int .i64 k]
  have zY1 : Y1.heap.size = g + 1 + 1 := by rw [eY1, World.size_alloc, zY0]
  rw [zY0] at hW
  replace hL := hL.below bY1 hL.lt
  replace q1 := q1.below bY1
  replace q2 := q2.below bY1
  replace q3 := q3.below bY1
  replace p1 := p1.below bY1
  replace t1 := t1.below bY1
  replace p2 := p2.below bY1
  replace t2 := t2.below bY1
  replace p3 := p3.below bY1
  replace t3 := t3.below bY1
  replace hB := hB.trans (bY1.mono hB.size)
  have hgw : w.heap.size ≤ g := by omega
  have EY := Lib.hid (And.intro hg (And.intro eY0 eY1))
  clear hg eY0 zY0 eY1 zY1
  obtain ⟨c0, c1, c2, c3, c4, c5, c6, c7, c8⟩ := hL.q9
  obtain ⟨c9, c10⟩ := hW.q2
  go_enter Tryz.func4, Tryz.ntmps4
  go_upto_region 1 with fail
  rw [← EY.out.2.1, ← EY.out.2.2, ← EY.out.1]
  replace hB := hB.drew
  replace q1 := q1.below (bdrew _)
  replace q2 := q2.below (bdrew _)
  replace q3 := q3.below (bdrew _)
  replace p1 := p1.below (bdrew _)
  replace t1 := t1.below (bdrew _)
  replace p2 := p2.below (bdrew _)
  replace t2 := t2.below (bdrew _)
  replace p3 := p3.below (bdrew _)
  replace t3 := t3.below (bdrew _)
  replace hL := hL.drew
  replace hW := hW.drew
  clear c0 c1 c2 c3 c4 c5 c6 c7 c8 c9 c10
  refine wp_region_noPanic ?_
  refine wp_region_held_drew (S := fun w' => w'.cell? ⟨g + 1, 0, none⟩ = some (.int .i64 beta) ∧ w'.cell? ⟨g + 1, 1, none⟩ = some (.int .i64 k)) (by kernel_rfl) ?_ (fun hHeld => ?_)
  · exact ⟨hW.cell 0, hW.cell 1⟩
  obtain ⟨wd1_1, hwd⟩ : ∃ q, q = Y1.drew := ⟨_, rfl⟩
  rw [← hwd] at hB q1 q2 q3 p1 t1 p2 t2 p3 t3 hL hW hHeld ⊢
  clear hwd
  refine tkH 0 rfl (v := ?v63) ?h63 ?r63
  case h63 => intro w hSw; (try dsimp only at hSw); go_simp; try (with_reducible rfl)
  refine tkH 1 rfl (v := ?v64) ?h64 ?r64
  case h64 => intro w hSw; (try dsimp only at hSw); go_simp; try (with_reducible rfl)
  refine tkH 2 rfl (v := ?v65) ?h65 ?r65
  case h65 => intro w hSw; (try dsimp only at hSw); go_simp; try (with_reducible rfl)
  refine tkH 3 rfl (v := ?v66) ?h66 ?r66
  case h66 => intro w hSw; (try dsimp only at hSw); go_simp; try (with_reducible rfl)
  refine tkH 4 rfl (v := ?v67) ?h67 ?r67
  case h67 => intro w hSw; (try dsimp only at hSw); go_simp; try (with_reducible rfl)
  refine tkH 5 rfl (v := ?v68) ?h68 ?r68
  case h68 => intro w hSw; (try dsimp only at hSw); go_simp; try (with_reducible rfl)
  try simp only [Act.put, lay1, lay2, lay3, lay4, lay5, lay6]
  try dsimp only
  try simp only [Act.put, lay1, lay2, lay3, lay4, lay5, lay6]
  refine wpAnyH_done (by kernel_rfl) ?_ _
  refine NoPanic.normal ?_
  skip
  obtain ⟨c11, c12, c13, c14, c15, c16, c17, c18, c19⟩ := hL.q9
  obtain ⟨c20, c21⟩ := hW.q2
  go_wp2_with fail
  go_loopw [9] (fun i wr => (i = .int .i64 0 ∨ i = .int .i64 1 ∨ i = .int .i64 2 ∨ i = .int .i64 3) ∧ Below wd1_1.heap.size wd1_1 wr) (fun i _ => (3 - RowKit.intOf i).toNat)
  case atStart => exact ⟨.inl rfl, Below.refl _ _⟩
  case round =>
    obtain ⟨hc, bl⟩ := hrel
    replace q1 := q1.below bl
    replace q2 := q2.below bl
    replace q3 := q3.below bl
    replace p1 := p1.below bl
    replace t1 := t1.below bl
    replace p2 := p2.below bl
    replace t2 := t2.below bl
    replace p3 := p3.below bl
    replace t3 := t3.below bl
    replace hL := hL.below bl hL.lt
    replace hW := hW.below bl hW.lt
    replace hB := hB.trans (bl.mono hB.size)
    clear c11 c12 c13 c14 c15 c16 c17 c18 c19 c20 c21
    obtain ⟨c22, c23, c24, c25, c26, c27, c28, c29, c30⟩ := hL.q9
    obtain ⟨c31, c32⟩ := hW.q2
    rcases hc with rfl | rfl | rfl | rfl
    · go_wp2_with fail
      refine (hF1 _ p1 t1).mono ?_
      rintro e w5 ⟨rfl, b5⟩
      replace q1 := q1.below b5
      replace q2 := q2.below b5
      replace q3 := q3.below b5
      replace p1 := p1.below b5
      replace t1 := t1.below b5
      replace p2 := p2.below b5
      replace t2 := t2.below b5
      replace p3 := p3.below b5
      replace t3 := t3.below b5
      replace hL := hL.below b5 hL.lt
      replace hW := hW.below b5 hW.lt
      replace hB := hB.trans (b5.mono hB.size)
      clear c22 c23 c24 c25 c26 c27 c28 c29 c30 c31 c32
      obtain ⟨c33, c34, c35, c36, c37, c38, c39, c40, c41⟩ := hL.q9
      obtain ⟨c42, c43⟩ := hW.q2
      go_wp2
      exact ⟨⟨.inr (.inl rfl), bl.trans (b5.mono bl.size)⟩, by simp [RowKit.intOf]⟩
    · go_wp2_with fail
      refine (hF2 _ p2 t2).mono ?_
      rintro e w5 ⟨rfl, b5⟩
      replace q1 := q1.below b5
      replace q2 := q2.below b5
      replace q3 := q3.below b5
      replace p1 := p1.below b5
      replace t1 := t1.below b5
      replace p2 := p2.below b5
      replace t2 := t2.below b5
      replace p3 := p3.below b5
      replace t3 := t3.below b5
      replace hL := hL.below b5 hL.lt
      replace hW := hW.below b5 hW.lt
      replace hB := hB.trans (b5.mono hB.size)
      clear c22 c23 c24 c25 c26 c27 c28 c29 c30 c31 c32
      obtain ⟨c33, c34, c35, c36, c37, c38, c39, c40, c41⟩ := hL.q9
      obtain ⟨c42, c43⟩ := hW.q2
      go_wp2
      exact ⟨⟨.inr (.inr (.inl rfl)), bl.trans (b5.mono bl.size)⟩, by simp [RowKit.intOf]⟩
    · go_wp2_with fail
      refine (hF3 _ p3 t3).mono ?_
      rintro e w5 ⟨rfl, b5⟩
      replace q1 := q1.below b5
      replace q2 := q2.below b5
      replace q3 := q3.below b5
      replace p1 := p1.below b5
      replace t1 := t1.below b5
      replace p2 := p2.below b5
      replace t2 := t2.below b5
      replace p3 := p3.below b5
      replace t3 := t3.below b5
      replace hL := hL.below b5 hL.lt
      replace hW := hW.below b5 hW.lt
      replace hB := hB.trans (b5.mono hB.size)
      clear c22 c23 c24 c25 c26 c27 c28 c29 c30 c31 c32
      obtain ⟨c33, c34, c35, c36, c37, c38, c39, c40, c41⟩ := hL.q9
      obtain ⟨c42, c43⟩ := hW.q2
      go_wp2
      exact ⟨⟨.inr (.inr (.inr (rfl))), bl.trans (b5.mono bl.size)⟩, by simp [RowKit.intOf]⟩
    · go_wp2_with fail
      refine (hN1 _ _ _ q1 q2).mono ?_
      rintro e w5 ⟨v4, rfl, x4, b5⟩
      replace q1 := q1.below b5
      replace q2 := q2.below b5
      replace q3 := q3.below b5
      replace hL := hL.below b5 hL.lt
      replace hW := hW.below b5 hW.lt
      replace hB := hB.trans (b5.mono hB.size)
      clear c22 c23 c24 c25 c26 c27 c28 c29 c30 c31 c32
      obtain ⟨c33, c34, c35, c36, c37, c38, c39, c40, c41⟩ := hL.q9
      obtain ⟨c42, c43⟩ := hW.q2
      obtain ⟨s4, A4, L4, C4, D4, M4, E4, rfl, x4⟩ := x4.opn
      obtain ⟨V7, eV, h4, bV7⟩ := box1 w5 32 #[.bool s4, .slice A4 L4 C4, .slice D4 M4 E4]
      obtain ⟨X7, eX⟩ : ∃ X, X = w5.heap.size := ⟨_, rfl⟩
      rw [← eX] at h4
      have lX7 : w.heap.size ≤ X7 := by rw [eX]; exact hB.size
      have dX7_hL : g ≠ X7 := by have := hL.lt; omega
      have dX7_hW : g + 1 ≠ X7 := by have := hW.lt; omega
      have EV7 := Lib.hid (And.intro eV eX)
      clear eV eX
      go_upto_region 8 with fail
      rw [← EV7.out.1, ← EV7.out.2]
      replace q1 := q1.below bV7
      replace q2 := q2.below bV7
      replace q3 := q3.below bV7
      replace hL := hL.below bV7 hL.lt
      replace hW := hW.below bV7 hW.lt
      replace x4 := x4.below bV7
      replace hB := hB.trans (bV7.mono hB.size)
      clear c33 c34 c35 c36 c37 c38 c39 c40 c41 c42 c43
      obtain ⟨c44, c45, c46, c47, c48, c49, c50, c51, c52⟩ := hL.q9
      obtain ⟨c53, c54⟩ := hW.q2
      obtain ⟨c55, c56, c57⟩ := h4.q3
      replace hB := hB.drew
      replace q1 := q1.below (bdrew _)
      replace q2 := q2.below (bdrew _)
      replace q3 := q3.below (bdrew _)
      replace hL := hL.drew
      replace hW := hW.drew
      replace x4 := x4.below (bdrew _)
      replace h4 := h4.drew
      clear c44 c45 c46 c47 c48 c49 c50 c51 c52 c53 c54 c55 c56 c57
      go_cut [12, 13] (fun s12 s13 wx => ∃ XA s6 A6 L6 C6 D6 M6 E6, s12 = .pointer (some ⟨XA, 0, none⟩) ∧ s13 = .int .i64 0 ∧ IsQ wx (.agg #[.bool false, .slice A1 l1.length C1, .slice D1 m1.length E1]) y1 ∧ IsQ wx (.agg #[.bool false, .slice A2 l2.length C2, .slice D2 m2.length E2]) y2 ∧ Blk wx g 52 #[.bool false, .slice A1 l1.length C1, .slice D1 m1.length E1, .bool false, .slice A2 l2.length C2, .slice D2 m2.length E2, .bool false, .slice A3 l3.length C3, .slice D3 m3.length E3] ∧ IsQ wx (.agg #[.bool s4, .slice A4 L4 C4, .slice D4 M4 E4]) rx ∧ Blk wx X7 32 #[.bool s4, .slice A4 L4 C4, .slice D4 M4 E4] ∧ IsQ wx (.agg #[.bool s6, .slice A6 L6 C6, .slice D6 M6 E6]) ry ∧ Blk wx XA 32 #[.bool s6, .slice A6 L6 C6, .slice D6 M6 E6] ∧ Below w.heap.size w wx ∧ w.heap.size ≤ XA ∧ g ≠ XA ∧ X7 ≠ XA)
      case first =>
        refine wp_region_noPanic ?_
        refine wp_region_held_drew (S := fun w' => w'.cell? ⟨g, 0, none⟩ = some (.bool false) ∧ w'.cell? ⟨g, 1, none⟩ = some (.slice A1 l1.length C1) ∧ w'.cell? ⟨g, 2, none⟩ = some (.slice D1 m1.length E1) ∧ w'.cell? ⟨g, 3, none⟩ = some (.bool false) ∧ w'.cell? ⟨g, 4, none⟩ = some (.slice A2 l2.length C2) ∧ w'.cell? ⟨g, 5, none⟩ = some (.slice D2 m2.length E2) ∧ w'.cell? ⟨g, 6, none⟩ = some (.bool false) ∧ w'.cell? ⟨g, 7, none⟩ = some (.slice A3 l3.length C3) ∧ w'.cell? ⟨g, 8, none⟩ = some (.slice D3 m3.length E3)) (by kernel_rfl) ?_ (fun hHeld => ?_)
        · exact ⟨hL.cell 0, hL.cell 1, hL.cell 2, hL.cell 3, hL.cell 4, hL.cell 5, hL.cell 6, hL.cell 7, hL.cell 8⟩
        obtain ⟨wd8_2, hwd⟩ : ∃ q, q = V7.drew := ⟨_, rfl⟩
        rw [← hwd] at hB q1 q2 q3 hL hW x4 h4 hHeld ⊢
        clear hwd
        refine tkH 0 rfl (v := ?v69) ?h69 ?r69
        case h69 => intro w hSw; (try dsimp only at hSw); go_simp; try (with_reducible rfl)
        refine tkH 1 rfl (v := ?v70) ?h70 ?r70
        case h70 => intro w hSw; (try dsimp only at hSw); go_simp; try (with_reducible rfl)
        refine tkH 2 rfl (v := ?v71) ?h71 ?r71
        case h71 => intro w hSw; (try dsimp only at hSw); go_simp; try (with_reducible rfl)
        refine tkH 3 rfl (v := ?v72) ?h72 ?r72
        case h72 => intro w hSw; (try dsimp only at hSw); go_simp; try (with_reducible rfl)
        refine tkH 4 rfl (v := ?v73) ?h73 ?r73
        case h73 => intro w hSw; (try dsimp only at hSw); go_simp; try (with_reducible rfl)
        refine tkH 5 rfl (v := ?v74) ?h74 ?r74
        case h74 => intro w hSw; (try dsimp only at hSw); go_simp; try (with_reducible rfl)
        refine tkH 7 rfl (v := ?v75) ?h75 ?r75
        case h75 => intro w hSw; (try dsimp only at hSw); go_simp; try (with_reducible rfl)
        refine tkH 8 rfl (v := ?v76) ?h76 ?r76
        case h76 => intro w hSw; (try dsimp only at hSw); go_simp; try (with_reducible rfl)
        try simp only [Act.put, lay1, lay2, lay3, lay4, lay5, lay6]
        refine wpAnyH_ready (rs := [6, 13]) (by kernel_rfl) (by simp) (AllReadyH.cons rfl (fun K hK => ?_) (AllReadyH.cons rfl (fun K hK => ?_) AllReadyH.nil))
        · go_simp
          refine (hAd _ _ _ q1 q3).mono ?_
          rintro e u8_1 ⟨v5, rfl, q5, b8_1⟩
          replace q1 := q1.below b8_1
          replace q2 := q2.below b8_1
          replace q3 := q3.below b8_1
          replace hL := hL.below b8_1 hL.lt
          replace hW := hW.below b8_1 hW.lt
          replace x4 := x4.below b8_1
          replace h4 := h4.below b8_1 h4.lt
          replace hB := hB.trans (b8_1.mono hB.size)
          obtain ⟨s5, A5, L5, C5, D5, M5, E5, rfl, q5⟩ := q5.opn
          go_wp2_with fail
          refine hK.out _ _ ?_ (fun hHeld => ?_)
          · exact ⟨hL.cell 0, hL.cell 1, hL.cell 2, hL.cell 3, hL.cell 4, hL.cell 5, hL.cell 6, hL.cell 7, hL.cell 8⟩
          clear hK K
          try simp only [Act.put, lay1, lay2, lay3, lay4, lay5, lay6]
          refine wpAnyH_ready (rs := [9, 13]) (by kernel_rfl) (by simp) (AllReadyH.cons rfl (fun K hK => ?_) (AllReadyH.cons rfl (fun K hK => ?_) AllReadyH.nil))
          · go_simp
            refine (hN2 _ _ _ q5 q2).mono ?_
            rintro e u8_2 ⟨v6, rfl, x6, b8_2⟩
            replace q1 := q1.below b8_2
            replace q2 := q2.below b8_2
            replace q3 := q3.below b8_2
            replace hL := hL.below b8_2 hL.lt
            replace hW := hW.below b8_2 hW.lt
            replace x4 := x4.below b8_2
            replace h4 := h4.below b8_2 h4.lt
            replace q5 := q5.below b8_2
            replace hB := hB.trans (b8_2.mono hB.size)
            obtain ⟨s6, A6, L6, C6, D6, M6, E6, rfl, x6⟩ := x6.opn
            go_wp2_with fail
            refine hK.out _ _ ?_ (fun hHeld => ?_)
            · exact ⟨hL.cell 0, hL.cell 1, hL.cell 2, hL.cell 3, hL.cell 4, hL.cell 5, hL.cell 6, hL.cell 7, hL.cell 8⟩
            clear hK K
            refine tkH 10 rfl (v := ?v77) ?h77 ?r77
            case h77 => intro w hSw; (try dsimp only at hSw); go_simp; try (with_reducible rfl)
            refine tkH 11 rfl (v := ?v78) ?h78 ?r78
            case h78 => intro w hSw; (try dsimp only at hSw); go_simp; try (with_reducible rfl)
            refine tkH 12 rfl (v := ?v79) ?h79 ?r79
            case h79 => intro w hSw; (try dsimp only at hSw); go_simp; try (with_reducible rfl)
            try simp only [Act.put, lay1, lay2, lay3, lay4, lay5, lay6]
            refine wpAnyH_ready (rs := [13]) (by kernel_rfl) (by simp) (AllReadyH.cons rfl (fun K hK => ?_) AllReadyH.nil)
            obtain ⟨u8_3, eu, h6, b8_3⟩ := box1 u8_2 32 #[.bool false, .slice none 0 0, .slice none 0 0]
            obtain ⟨XA, en⟩ : ∃ X, X = u8_2.heap.size := ⟨_, rfl⟩
            rw [← en] at h6
            have lXA : w.heap.size ≤ XA := by rw [en]; exact hB.size
            have dXA_hL : g ≠ XA := by have := hL.lt; omega
            have dXA_hW : g + 1 ≠ XA := by have := hW.lt; omega
            have dXA_h4 : X7 ≠ XA := by have := h4.lt; omega
            have EUXA := Lib.hid (And.intro eu en)
            clear eu en
            go_simp
            rw [← EUXA.out.1, ← EUXA.out.2]
            replace q1 := q1.below b8_3
            replace q2 := q2.below b8_3
            replace q3 := q3.below b8_3
            replace hL := hL.below b8_3 hL.lt
            replace hW := hW.below b8_3 hW.lt
            replace x4 := x4.below b8_3
            replace h4 := h4.below b8_3 h4.lt
            replace q5 := q5.below b8_3
            replace x6 := x6.below b8_3
            replace hB := hB.trans (b8_3.mono hB.size)
            refine hK.out _ _ ?_ (fun hHeld => ?_)
            · exact ⟨hL.cell 0, hL.cell 1, hL.cell 2, hL.cell 3, hL.cell 4, hL.cell 5, hL.cell 6, hL.cell 7, hL.cell 8⟩
            clear hK K
            try simp only [Act.put, lay1, lay2, lay3, lay4, lay5, lay6]
            refine wpAnyH_ready (rs := [14]) (by kernel_rfl) (by simp) (AllReadyH.cons rfl (fun K hK => ?_) AllReadyH.nil)
            obtain ⟨u8_4, eu, h6', kz, kb, kB⟩ := fill3 h6 (.bool s6) (.slice A6 L6 C6) (.slice D6 M6 E6) (by simp [noU])
            have x0 : World.cell? _ ⟨XA, 0, none⟩ = some (.bool false) := h6.cell 0
            have x1 : World.cell? _ ⟨XA, 1, none⟩ = some (.slice none 0 0) := h6.cell 1
            have x2 : World.cell? _ ⟨XA, 2, none⟩ = some (.slice none 0 0) := h6.cell 2
            have xf := h6.frozen
            go_simp
            rw [← eu]
            replace q1 := q1.filled kz
            replace q2 := q2.filled kz
            replace q3 := q3.filled kz
            replace hL := kb _ _ _ hL (by omega)
            replace hW := kb _ _ _ hW (by omega)
            replace x4 := x4.filled kz
            replace h4 := kb _ _ _ h4 (by omega)
            replace q5 := q5.filled kz
            replace x6 := x6.filled kz
            replace hB := kB _ _ (by omega) hB
            replace h6 := h6'
            clear h6' kz kb kB eu xf x0 x1 x2
            refine hK.out _ _ ?_ (fun hHeld => ?_)
            · exact ⟨hL.cell 0, hL.cell 1, hL.cell 2, hL.cell 3, hL.cell 4, hL.cell 5, hL.cell 6, hL.cell 7, hL.cell 8⟩
            clear hK K
            refine tkH 15 rfl (v := ?v80) ?h80 ?r80
            case h80 => intro w hSw; (try dsimp only at hSw); go_simp; try (with_reducible rfl)
            try simp only [Act.put, lay1, lay2, lay3, lay4, lay5, lay6]
            try dsimp only
            try simp only [Act.put, lay1, lay2, lay3, lay4, lay5, lay6]
            refine wpAnyH_done (by kernel_rfl) ?_ _
            refine NoPanic.normal ?_
            go_wp2_with fail
            go_meet
            exact ⟨XA, s6, A6, L6, C6, D6, M6, E6, rfl, rfl, q1, q2, hL, x4, h4, x6, h6, hB, lXA, (by assumption), (by assumption)⟩
          · obtain ⟨u8_5, eu, h6, b8_5⟩ := box1 u8_1 32 #[.bool false, .slice none 0 0, .slice none 0 0]
            obtain ⟨XA, en⟩ : ∃ X, X = u8_1.heap.size := ⟨_, rfl⟩
            rw [← en] at h6
            have lXA : w.heap.size ≤ XA := by rw [en]; exact hB.size
            have dXA_hL : g ≠ XA := by have := hL.lt; omega
            have dXA_hW : g + 1 ≠ XA := by have := hW.lt; omega
            have dXA_h4 : X7 ≠ XA := by have := h4.lt; omega
            have EUXA := Lib.hid (And.intro eu en)
            clear eu en
            go_simp
            rw [← EUXA.out.1, ← EUXA.out.2]
            replace q1 := q1.below b8_5
            replace q2 := q2.below b8_5
            replace q3 := q3.below b8_5
            replace hL := hL.below b8_5 hL.lt
            replace hW := hW.below b8_5 hW.lt
            replace x4 := x4.below b8_5
            replace h4 := h4.below b8_5 h4.lt
            replace q5 := q5.below b8_5
            replace hB := hB.trans (b8_5.mono hB.size)
            refine hK.out _ _ ?_ (fun hHeld => ?_)
            · exact ⟨hL.cell 0, hL.cell 1, hL.cell 2, hL.cell 3, hL.cell 4, hL.cell 5, hL.cell 6, hL.cell 7, hL.cell 8⟩
            clear hK K
            try simp only [Act.put, lay1, lay2, lay3, lay4, lay5, lay6]
            refine wpAnyH_ready (rs := [9]) (by kernel_rfl) (by simp) (AllReadyH.cons rfl (fun K hK => ?_) AllReadyH.nil)
            go_simp
            refine (hN2 _ _ _ q5 q2).mono ?_
            rintro e u8_6 ⟨v6, rfl, x6, b8_6⟩
            replace q1 := q1.below b8_6
            replace q2 := q2.below b8_6
            replace q3 := q3.below b8_6
            replace hL := hL.below b8_6 hL.lt
            replace hW := hW.below b8_6 hW.lt
            replace x4 := x4.below b8_6
            replace h4 := h4.below b8_6 h4.lt
            replace q5 := q5.below b8_6
            replace h6 := h6.below b8_6 h6.lt
            replace hB := hB.trans (b8_6.mono hB.size)
            obtain ⟨s6, A6, L6, C6, D6, M6, E6, rfl, x6⟩ := x6.opn
            go_wp2_with fail
            refine hK.out _ _ ?_ (fun hHeld => ?_)
            · exact ⟨hL.cell 0, hL.cell 1, hL.cell 2, hL.cell 3, hL.cell 4, hL.cell 5, hL.cell 6, hL.cell 7, hL.cell 8⟩
            clear hK K
            refine tkH 10 rfl (v := ?v81) ?h81 ?r81
            case h81 => intro w hSw; (try dsimp only at hSw); go_simp; try (with_reducible rfl)
            refine tkH 11 rfl (v := ?v82) ?h82 ?r82
            case h82 => intro w hSw; (try dsimp only at hSw); go_simp; try (with_reducible rfl)
            refine tkH 12 rfl (v := ?v83) ?h83 ?r83
            case h83 => intro w hSw; (try dsimp only at hSw); go_simp; try (with_reducible rfl)
            try simp only [Act.put, lay1, lay2, lay3, lay4, lay5, lay6]
            refine wpAnyH_ready (rs := [14]) (by kernel_rfl) (by simp) (AllReadyH.cons rfl (fun K hK => ?_) AllReadyH.nil)
            obtain ⟨u8_7, eu, h6', kz, kb, kB⟩ := fill3 h6 (.bool s6) (.slice A6 L6 C6) (.slice D6 M6 E6) (by simp [noU])
            have x0 : World.cell? _ ⟨XA, 0, none⟩ = some (.bool false) := h6.cell 0
            have x1 : World.cell? _ ⟨XA, 1, none⟩ = some (.slice none 0 0) := h6.cell 1
            have x2 : World.cell? _ ⟨XA, 2, none⟩ = some (.slice none 0 0) := h6.cell 2
            have xf := h6.frozen
            go_simp
            rw [← eu]
            replace q1 := q1.filled kz
            replace q2 := q2.filled kz
            replace q3 := q3.filled kz
            replace hL := kb _ _ _ hL (by omega)
            replace hW := kb _ _ _ hW (by omega)
            replace x4 := x4.filled kz
            replace h4 := kb _ _ _ h4 (by omega)
            replace q5 := q5.filled kz
            replace x6 := x6.filled kz
            replace hB := kB _ _ (by omega) hB
            replace h6 := h6'
            clear h6' kz kb kB eu xf x0 x1 x2
            refine hK.out _ _ ?_ (fun hHeld => ?_)
            · exact ⟨hL.cell 0, hL.cell 1, hL.cell 2, hL.cell 3, hL.cell 4, hL.cell 5, hL.cell 6, hL.cell 7, hL.cell 8⟩
            clear hK K
            refine tkH 15 rfl (v := ?v84) ?h84 ?r84
            case h84 => intro w hSw; (try dsimp only at hSw); go_simp; try (with_reducible rfl)
            try simp only [Act.put, lay1, lay2, lay3, lay4, lay5, lay6]
            try dsimp only
            try simp only [Act.put, lay1, lay2, lay3, lay4, lay5, lay6]
            refine wpAnyH_done (by kernel_rfl) ?_ _
            refine NoPanic.normal ?_
            go_wp2_with fail
            go_meet
            exact ⟨XA, s6, A6, L6, C6, D6, M6, E6, rfl, rfl, q1, q2, hL, x4, h4, x6, h6, hB, lXA, (by assumption), (by assumption)⟩
        · obtain ⟨u8_8, eu, h6, b8_8⟩ := box1 wd8_2 32 #[.bool false, .slice none 0 0, .slice none 0 0]
          obtain ⟨XA, en⟩ : ∃ X, X = wd8_2.heap.size := ⟨_, rfl⟩
          rw [← en] at h6
          have lXA : w.heap.size ≤ XA := by rw [en]; exact hB.size
          have dXA_hL : g ≠ XA := by have := hL.lt; omega
          have dXA_hW : g + 1 ≠ XA := by have := hW.lt; omega
          have dXA_h4 : X7 ≠ XA := by have := h4.lt; omega
          have EUXA := Lib.hid (And.intro eu en)
          clear eu en
          go_simp
          rw [← EUXA.out.1, ← EUXA.out.2]
          replace q1 := q1.below b8_8
          replace q2 := q2.below b8_8
          replace q3 := q3.below b8_8
          replace hL := hL.below b8_8 hL.lt
          replace hW := hW.below b8_8 hW.lt
          replace x4 := x4.below b8_8
          replace h4 := h4.below b8_8 h4.lt
          replace hB := hB.trans (b8_8.mono hB.size)
          refine hK.out _ _ ?_ (fun hHeld => ?_)
          · exact ⟨hL.cell 0, hL.cell 1, hL.cell 2, hL.cell 3, hL.cell 4, hL.cell 5, hL.cell 6, hL.cell 7, hL.cell 8⟩
          clear hK K
          try simp only [Act.put, lay1, lay2, lay3, lay4, lay5, lay6]
          refine wpAnyH_ready (rs := [6]) (by kernel_rfl) (by simp) (AllReadyH.cons rfl (fun K hK => ?_) AllReadyH.nil)
          go_simp
          refine (hAd _ _ _ q1 q3).mono ?_
          rintro e u8_9 ⟨v5, rfl, q5, b8_9⟩
          replace q1 := q1.below b8_9
          replace q2 := q2.below b8_9
          replace q3 := q3.below b8_9
          replace hL := hL.below b8_9 hL.lt
          replace hW := hW.below b8_9 hW.lt
          replace x4 := x4.below b8_9
          replace h4 := h4.below b8_9 h4.lt
          replace h6 := h6.below b8_9 h6.lt
          replace hB := hB.trans (b8_9.mono hB.size)
          obtain ⟨s5, A5, L5, C5, D5, M5, E5, rfl, q5⟩ := q5.opn
          go_wp2_with fail
          refine hK.out _ _ ?_ (fun hHeld => ?_)
          · exact ⟨hL.cell 0, hL.cell 1, hL.cell 2, hL.cell 3, hL.cell 4, hL.cell 5, hL.cell 6, hL.cell 7, hL.cell 8⟩
          clear hK K
          try simp only [Act.put, lay1, lay2, lay3, lay4, lay5, lay6]
          refine wpAnyH_ready (rs := [9]) (by kernel_rfl) (by simp) (AllReadyH.cons rfl (fun K hK => ?_) AllReadyH.nil)
          go_simp
          refine (hN2 _ _ _ q5 q2).mono ?_
          rintro e u8_10 ⟨v6, rfl, x6, b8_10⟩
          replace q1 := q1.below b8_10
          replace q2 := q2.below b8_10
          replace q3 := q3.below b8_10
          replace hL := hL.below b8_10 hL.lt
          replace hW := hW.below b8_10 hW.lt
          replace x4 := x4.below b8_10
          replace h4 := h4.below b8_10 h4.lt
          replace h6 := h6.below b8_10 h6.lt
          replace q5 := q5.below b8_10
          replace hB := hB.trans (b8_10.mono hB.size)
          obtain ⟨s6, A6, L6, C6, D6, M6, E6, rfl, x6⟩ := x6.opn
          go_wp2_with fail
          refine hK.out _ _ ?_ (fun hHeld => ?_)
          · exact ⟨hL.cell 0, hL.cell 1, hL.cell 2, hL.cell 3, hL.cell 4, hL.cell 5, hL.cell 6, hL.cell 7, hL.cell 8⟩
          clear hK K
          refine tkH 10 rfl (v := ?v85) ?h85 ?r85
          case h85 => intro w hSw; (try dsimp only at hSw); go_simp; try (with_reducible rfl)
          refine tkH 11 rfl (v := ?v86) ?h86 ?r86
          case h86 => intro w hSw; (try dsimp only at hSw); go_simp; try (with_reducible rfl)
          refine tkH 12 rfl (v := ?v87) ?h87 ?r87
          case h87 => intro w hSw; (try dsimp only at hSw); go_simp; try (with_reducible rfl)
          try simp only [Act.put, lay1, lay2, lay3, lay4, lay5, lay6]
          refine wpAnyH_ready (rs := [14]) (by kernel_rfl) (by simp) (AllReadyH.cons rfl (fun K hK => ?_) AllReadyH.nil)
          obtain ⟨u8_11, eu, h6', kz, kb, kB⟩ := fill3 h6 (.bool s6) (.slice A6 L6 C6) (.slice D6 M6 E6) (by simp [noU])
          have x0 : World.cell? _ ⟨XA, 0, none⟩ = some (.bool false) := h6.cell 0
          have x1 : World.cell? _ ⟨XA, 1, none⟩ = some (.slice none 0 0) := h6.cell 1
          have x2 : World.cell? _ ⟨XA, 2, none⟩ = some (.slice none 0 0) := h6.cell 2
          have xf := h6.frozen
          go_simp
          rw [← eu]
          replace q1 := q1.filled kz
          replace q2 := q2.filled kz
          replace q3 := q3.filled kz
          replace hL := kb _ _ _ hL (by omega)
          replace hW := kb _ _ _ hW (by omega)
          replace x4 := x4.filled kz
          replace h4 := kb _ _ _ h4 (by omega)
          replace q5 := q5.filled kz
          replace x6 := x6.filled kz
          replace hB := kB _ _ (by omega) hB
          replace h6 := h6'
          clear h6' kz kb kB eu xf x0 x1 x2
          refine hK.out _ _ ?_ (fun hHeld => ?_)
          · exact ⟨hL.cell 0, hL.cell 1, hL.cell 2, hL.cell 3, hL.cell 4, hL.cell 5, hL.cell 6, hL.cell 7, hL.cell 8⟩
          clear hK K
          refine tkH 15 rfl (v := ?v88) ?h88 ?r88
          case h88 => intro w hSw; (try dsimp only at hSw); go_simp; try (with_reducible rfl)
          try simp only [Act.put, lay1, lay2, lay3, lay4, lay5, lay6]
          try dsimp only
          try simp only [Act.put, lay1, lay2, lay3, lay4, lay5, lay6]
          refine wpAnyH_done (by kernel_rfl) ?_ _
          refine NoPanic.normal ?_
          go_wp2_with fail
          go_meet
          exact ⟨XA, s6, A6, L6, C6, D6, M6, E6, rfl, rfl, q1, q2, hL, x4, h4, x6, h6, hB, lXA, (by assumption), (by assumption)⟩
      obtain ⟨XA, s6, A6, L6, C6, D6, M6, E6, rfl, rfl, q1, q2, hL, x4, h4, x6, h6, hB, lXA, dXA_hL, dXA_h4⟩ := hcut
      obtain ⟨c58, c59, c60, c61, c62, c63, c64, c65, c66⟩ := hL.q9
      obtain ⟨c67, c68, c69⟩ := h4.q3
      obtain ⟨c70, c71, c72⟩ := h6.q3
      go_wp2_with fail
      refine (hAr _ _ q1).mono ?_
      rintro e w10 ⟨v7, rfl, x7, b10⟩
      replace q1 := q1.below b10
      replace q2 := q2.below b10
      replace hL := hL.below b10 hL.lt
      replace x4 := x4.below b10
      replace h4 := h4.below b10 h4.lt
      replace x6 := x6.below b10
      replace h6 := h6.below b10 h6.lt
      replace hB := hB.trans (b10.mono hB.size)
      clear c58 c59 c60 c61 c62 c63 c64 c65 c66 c67 c68 c69 c70 c71 c72
      obtain ⟨c73, c74, c75, c76, c77, c78, c79, c80, c81⟩ := hL.q9
      obtain ⟨c82, c83, c84⟩ := h4.q3
      obtain ⟨c85, c86, c87⟩ := h6.q3
      obtain ⟨s7, A7, L7, C7, D7, M7, E7, s8, A8, L8, C8, D8, M8, E8, rfl, q7, q8⟩ := x7.opn
      obtain ⟨V12, eV, h7, bV12⟩ := box1 w10 46 #[.bool s7, .slice A7 L7 C7, .slice D7 M7 E7, .bool s8, .slice A8 L8 C8, .slice D8 M8 E8]
      obtain ⟨X12, eX⟩ : ∃ X, X = w10.heap.size := ⟨_, rfl⟩
      rw [← eX] at h7
      have lX12 : w.heap.size ≤ X12 := by rw [eX]; exact hB.size
      have dX12_hL : g ≠ X12 := by have := hL.lt; omega
      have dX12_h4 : X7 ≠ X12 := by have := h4.lt; omega
      have dX12_h6 : XA ≠ X12 := by have := h6.lt; omega
      have EV12 := Lib.hid (And.intro eV eX)
      clear eV eX
      go_upto_region 10 with fail
      rw [← EV12.out.1, ← EV12.out.2]
      replace q1 := q1.below bV12
      replace q2 := q2.below bV12
      replace hL := hL.below bV12 hL.lt
      replace x4 := x4.below bV12
      replace h4 := h4.below bV12 h4.lt
      replace x6 := x6.below bV12
      replace h6 := h6.below bV12 h6.lt
      replace q7 := q7.below bV12
      replace q8 := q8.below bV12
      replace hB := hB.trans (bV12.mono hB.size)
      clear c73 c74 c75 c76 c77 c78 c79 c80 c81 c82 c83 c84 c85 c86 c87
      obtain ⟨c88, c89, c90, c91, c92, c93, c94, c95, c96⟩ := hL.q9
      obtain ⟨c97, c98, c99⟩ := h4.q3
      obtain ⟨c100, c101, c102⟩ := h6.q3
      obtain ⟨c103, c104, c105, c106, c107, c108⟩ := h7.q6
      go_wp2_with fail
      refine (hRt _).mono ?_
      rintro e w14 ⟨v9, rfl, q9, b14⟩
      replace q1 := q1.below b14
      replace q2 := q2.below b14
      replace hL := hL.below b14 hL.lt
      replace x4 := x4.below b14
      replace h4 := h4.below b14 h4.lt
      replace x6 := x6.below b14
      replace h6 := h6.below b14 h6.lt
      replace q7 := q7.below b14
      replace q8 := q8.below b14
      replace h7 := h7.below b14 h7.lt
      replace hB := hB.trans (b14.mono hB.size)
      clear c88 c89 c90 c91 c92 c93 c94 c95 c96 c97 c98 c99 c100 c101 c102 c103 c104 c105 c106 c107 c108
      obtain ⟨c109, c110, c111, c112, c113, c114, c115, c116, c117⟩ := hL.q9
      obtain ⟨c118, c119, c120⟩ := h4.q3
      obtain ⟨c121, c122, c123⟩ := h6.q3
      obtain ⟨c124, c125, c126, c127, c128, c129⟩ := h7.q6
      obtain ⟨s9, A9, L9, C9, D9, M9, E9, rfl, q9⟩ := q9.opn
      obtain ⟨V16, eV, h9, bV16⟩ := box1 w14 32 #[.bool s9, .slice A9 L9 C9, .slice D9 M9 E9]
      obtain ⟨X16, eX⟩ : ∃ X, X = w14.heap.size := ⟨_, rfl⟩
      rw [← eX] at h9
      have lX16 : w.heap.size ≤ X16 := by rw [eX]; exact hB.size
      have dX16_hL : g ≠ X16 := by have := hL.lt; omega
      have dX16_h4 : X7 ≠ X16 := by have := h4.lt; omega
      have dX16_h6 : XA ≠ X16 := by have := h6.lt; omega
      have dX16_h7 : X12 ≠ X16 := by have := h7.lt; omega
      have EV16 := Lib.hid (And.intro eV eX)
      clear eV eX
      go_upto_region 13 with fail
      rw [← EV16.out.1, ← EV16.out.2]
      replace q1 := q1.below bV16
      replace q2 := q2.below bV16
      replace hL := hL.below bV16 hL.lt
      replace x4 := x4.below bV16
      replace h4 := h4.below bV16 h4.lt
      replace x6 := x6.below bV16
      replace h6 := h6.below bV16 h6.lt
      replace q7 := q7.below bV16
      replace q8 := q8.below bV16
      replace h7 := h7.below bV16 h7.lt
      replace q9 := q9.below bV16
      replace hB := hB.trans (bV16.mono hB.size)
      clear c109 c110 c111 c112 c113 c114 c115 c116 c117 c118 c119 c120 c121 c122 c123 c124 c125 c126 c127 c128 c129
      obtain ⟨c130, c131, c132, c133, c134, c135, c136, c137, c138⟩ := hL.q9
      obtain ⟨c139, c140, c141⟩ := h4.q3
      obtain ⟨c142, c143, c144⟩ := h6.q3
      obtain ⟨c145, c146, c147, c148, c149, c150⟩ := h7.q6
      obtain ⟨c151, c152, c153⟩ := h9.q3
      replace hB := hB.drew
      replace q1 := q1.below (bdrew _)
      replace q2 := q2.below (bdrew _)
      replace hL := hL.drew
      replace x4 := x4.below (bdrew _)
      replace h4 := h4.drew
      replace x6 := x6.below (bdrew _)
      replace h6 := h6.drew
      replace q7 := q7.below (bdrew _)
      replace q8 := q8.below (bdrew _)
      replace h7 := h7.drew
      replace q9 := q9.below (bdrew _)
      replace h9 := h9.drew
      clear c130 c131 c132 c133 c134 c135 c136 c137 c138 c139 c140 c141 c142 c143 c144 c145 c146 c147 c148 c149 c150 c151 c152 c153
      go_cut [18] (fun s18 wx => ∃ XB s11 A11 L11 C11 D11 M11 E11, s18 = .pointer (some ⟨XB, 0, none⟩) ∧ IsQ wx (.agg #[.bool false, .slice A1 l1.length C1, .slice D1 m1.length E1]) y1 ∧ Blk wx g 52 #[.bool false, .slice A1 l1.length C1, .slice D1 m1.length E1, .bool false, .slice A2 l2.length C2, .slice D2 m2.length E2, .bool false, .slice A3 l3.length C3, .slice D3 m3.length E3] ∧ IsQ wx (.agg #[.bool s4, .slice A4 L4 C4, .slice D4 M4 E4]) rx ∧ Blk wx X7 32 #[.bool s4, .slice A4 L4 C4, .slice D4 M4 E4] ∧ IsQ wx (.agg #[.bool s6, .slice A6 L6 C6, .slice D6 M6 E6]) ry ∧ Blk wx XA 32 #[.bool s6, .slice A6 L6 C6, .slice D6 M6 E6] ∧ IsQ wx (.agg #[.bool s7, .slice A7 L7 C7, .slice D7 M7 E7]) rlo ∧ IsQ wx (.agg #[.bool s8, .slice A8 L8 C8, .slice D8 M8 E8]) rhi ∧ Blk wx X12 46 #[.bool s7, .slice A7 L7 C7, .slice D7 M7 E7, .bool s8, .slice A8 L8 C8, .slice D8 M8 E8] ∧ IsQ wx (.agg #[.bool s9, .slice A9 L9 C9, .slice D9 M9 E9]) rsh ∧ Blk wx X16 32 #[.bool s9, .slice A9 L9 C9, .slice D9 M9 E9] ∧ IsQ wx (.agg #[.bool s11, .slice A11 L11 C11, .slice D11 M11 E11]) re ∧ Blk wx XB 32 #[.bool s11, .slice A11 L11 C11, .slice D11 M11 E11] ∧ Below w.heap.size w wx ∧ w.heap.size ≤ XB ∧ g ≠ XB ∧ X7 ≠ XB ∧ XA ≠ XB ∧ X12 ≠ XB ∧ X16 ≠ XB)
      case first =>
        refine wp_region_noPanic ?_
        refine wp_region_held_drew (S := fun w' => w'.cell? ⟨X16, 0, none⟩ = some (.bool s9) ∧ w'.cell? ⟨X16, 1, none⟩ = some (.slice A9 L9 C9) ∧ w'.cell? ⟨X16, 2, none⟩ = some (.slice D9 M9 E9) ∧ w'.cell? ⟨g, 0, none⟩ = some (.bool false) ∧ w'.cell? ⟨g, 1, none⟩ = some (.slice A1 l1.length C1) ∧ w'.cell? ⟨g, 2, none⟩ = some (.slice D1 m1.length E1) ∧ w'.cell? ⟨g, 3, none⟩ = some (.bool false) ∧ w'.cell? ⟨g, 4, none⟩ = some (.slice A2 l2.length C2) ∧ w'.cell? ⟨g, 5, none⟩ = some (.slice D2 m2.length E2) ∧ w'.cell? ⟨g, 6, none⟩ = some (.bool false) ∧ w'.cell? ⟨g, 7, none⟩ = some (.slice A3 l3.length C3) ∧ w'.cell? ⟨g, 8, none⟩ = some (.slice D3 m3.length E3)) (by kernel_rfl) ?_ (fun hHeld => ?_)
        · exact ⟨h9.cell 0, h9.cell 1, h9.cell 2, hL.cell 0, hL.cell 1, hL.cell 2, hL.cell 3, hL.cell 4, hL.cell 5, hL.cell 6, hL.cell 7, hL.cell 8⟩
        obtain ⟨wd13_3, hwd⟩ : ∃ q, q = V16.drew := ⟨_, rfl⟩
        rw [← hwd] at hB q1 q2 hL x4 h4 x6 h6 q7 q8 h7 q9 h9 hHeld ⊢
        clear hwd
        refine tkH 0 rfl (v := ?v89) ?h89 ?r89
        case h89 => intro w hSw; (try dsimp only at hSw); go_simp; try (with_reducible rfl)
        refine tkH 1 rfl (v := ?v90) ?h90 ?r90
        case h90 => intro w hSw; (try dsimp only at hSw); go_simp; try (with_reducible rfl)
        refine tkH 2 rfl (v := ?v91) ?h91 ?r91
        case h91 => intro w hSw; (try dsimp only at hSw); go_simp; try (with_reducible rfl)
        refine tkH 4 rfl (v := ?v92) ?h92 ?r92
        case h92 => intro w hSw; (try dsimp only at hSw); go_simp; try (with_reducible rfl)
        refine tkH 5 rfl (v := ?v93) ?h93 ?r93
        case h93 => intro w hSw; (try dsimp only at hSw); go_simp; try (with_reducible rfl)
        try simp only [Act.put, lay1, lay2, lay3, lay4, lay5, lay6]
        refine wpAnyH_ready (rs := [3, 7]) (by kernel_rfl) (by simp) (AllReadyH.cons rfl (fun K hK => ?_) (AllReadyH.cons rfl (fun K hK => ?_) AllReadyH.nil))
        · go_simp
          refine (hM1 _ _ _ q9 q1).mono ?_
          rintro e u13_1 ⟨v10, rfl, q10, b13_1⟩
          replace q1 := q1.below b13_1
          replace q2 := q2.below b13_1
          replace hL := hL.below b13_1 hL.lt
          replace x4 := x4.below b13_1
          replace h4 := h4.below b13_1 h4.lt
          replace x6 := x6.below b13_1
          replace h6 := h6.below b13_1 h6.lt
          replace q7 := q7.below b13_1
          replace q8 := q8.below b13_1
          replace h7 := h7.below b13_1 h7.lt
          replace q9 := q9.below b13_1
          replace h9 := h9.below b13_1 h9.lt
          replace hB := hB.trans (b13_1.mono hB.size)
          obtain ⟨s10, A10, L10, C10, D10, M10, E10, rfl, q10⟩ := q10.opn
          go_wp2_with fail
          refine hK.out _ _ ?_ (fun hHeld => ?_)
          · exact ⟨h9.cell 0, h9.cell 1, h9.cell 2, hL.cell 0, hL.cell 1, hL.cell 2, hL.cell 3, hL.cell 4, hL.cell 5, hL.cell 6, hL.cell 7, hL.cell 8⟩
          clear hK K
          try simp only [Act.put, lay1, lay2, lay3, lay4, lay5, lay6]
          refine wpAnyH_ready (rs := [6, 7]) (by kernel_rfl) (by simp) (AllReadyH.cons rfl (fun K hK => ?_) (AllReadyH.cons rfl (fun K hK => ?_) AllReadyH.nil))
          · go_simp
            refine (hA2 _ _ _ q10 q2).mono ?_
            rintro e u13_2 ⟨v11, rfl, q11, b13_2⟩
            replace q1 := q1.below b13_2
            replace q2 := q2.below b13_2
            replace hL := hL.below b13_2 hL.lt
            replace x4 := x4.below b13_2
            replace h4 := h4.below b13_2 h4.lt
            replace x6 := x6.below b13_2
            replace h6 := h6.below b13_2 h6.lt
            replace q7 := q7.below b13_2
            replace q8 := q8.below b13_2
            replace h7 := h7.below b13_2 h7.lt
            replace q9 := q9.below b13_2
            replace h9 := h9.below b13_2 h9.lt
            replace q10 := q10.below b13_2
            replace hB := hB.trans (b13_2.mono hB.size)
            obtain ⟨s11, A11, L11, C11, D11, M11, E11, rfl, q11⟩ := q11.opn
            go_wp2_with fail
            refine hK.out _ _ ?_ (fun hHeld => ?_)
            · exact ⟨h9.cell 0, h9.cell 1, h9.cell 2, hL.cell 0, hL.cell 1, hL.cell 2, hL.cell 3, hL.cell 4, hL.cell 5, hL.cell 6, hL.cell 7, hL.cell 8⟩
            clear hK K
            try simp only [Act.put, lay1, lay2, lay3, lay4, lay5, lay6]
            refine wpAnyH_ready (rs := [7]) (by kernel_rfl) (by simp) (AllReadyH.cons rfl (fun K hK => ?_) AllReadyH.nil)
            obtain ⟨u13_3, eu, h11, b13_3⟩ := box1 u13_2 32 #[.bool false, .slice none 0 0, .slice none 0 0]
            obtain ⟨XB, en⟩ : ∃ X, X = u13_2.heap.size := ⟨_, rfl⟩
            rw [← en] at h11
            have lXB : w.heap.size ≤ XB := by rw [en]; exact hB.size
            have dXB_hL : g ≠ XB := by have := hL.lt; omega
            have dXB_h4 : X7 ≠ XB := by have := h4.lt; omega
            have dXB_h6 : XA ≠ XB := by have := h6.lt; omega
            have dXB_h7 : X12 ≠ XB := by have := h7.lt; omega
            have dXB_h9 : X16 ≠ XB := by have := h9.lt; omega
            have EUXB := Lib.hid (And.intro eu en)
            clear eu en
            go_simp
            rw [← EUXB.out.1, ← EUXB.out.2]
            replace q1 := q1.below b13_3
            replace q2 := q2.below b13_3
            replace hL := hL.below b13_3 hL.lt
            replace x4 := x4.below b13_3
            replace h4 := h4.below b13_3 h4.lt
            replace x6 := x6.below b13_3
            replace h6 := h6.below b13_3 h6.lt
            replace q7 := q7.below b13_3
            replace q8 := q8.below b13_3
            replace h7 := h7.below b13_3 h7.lt
            replace q9 := q9.below b13_3
            replace h9 := h9.below b13_3 h9.lt
            replace q10 := q10.below b13_3
            replace q11 := q11.below b13_3
            replace hB := hB.trans (b13_3.mono hB.size)
            refine hK.out _ _ ?_ (fun hHeld => ?_)
            · exact ⟨h9.cell 0, h9.cell 1, h9.cell 2, hL.cell 0, hL.cell 1, hL.cell 2, hL.cell 3, hL.cell 4, hL.cell 5, hL.cell 6, hL.cell 7, hL.cell 8⟩
            clear hK K
            try simp only [Act.put, lay1, lay2, lay3, lay4, lay5, lay6]
            refine wpAnyH_ready (rs := [8]) (by kernel_rfl) (by simp) (AllReadyH.cons rfl (fun K hK => ?_) AllReadyH.nil)
            obtain ⟨u13_4, eu, h11', kz, kb, kB⟩ := fill3 h11 (.bool s11) (.slice A11 L11 C11) (.slice D11 M11 E11) (by simp [noU])
            have x0 : World.cell? _ ⟨XB, 0, none⟩ = some (.bool false) := h11.cell 0
            have x1 : World.cell? _ ⟨XB, 1, none⟩ = some (.slice none 0 0) := h11.cell 1
            have x2 : World.cell? _ ⟨XB, 2, none⟩ = some (.slice none 0 0) := h11.cell 2
            have xf := h11.frozen
            go_simp
            rw [← eu]
            replace q1 := q1.filled kz
            replace q2 := q2.filled kz
            replace hL := kb _ _ _ hL (by omega)
            replace x4 := x4.filled kz
            replace h4 := kb _ _ _ h4 (by omega)
            replace x6 := x6.filled kz
            replace h6 := kb _ _ _ h6 (by omega)
            replace q7 := q7.filled kz
            replace q8 := q8.filled kz
            replace h7 := kb _ _ _ h7 (by omega)
            replace q9 := q9.filled kz
            replace h9 := kb _ _ _ h9 (by omega)
            replace q10 := q10.filled kz
            replace q11 := q11.filled kz
            replace hB := kB _ _ (by omega) hB
            replace h11 := h11'
            clear h11' kz kb kB eu xf x0 x1 x2
            refine hK.out _ _ ?_ (fun hHeld => ?_)
            · exact ⟨h9.cell 0, h9.cell 1, h9.cell 2, hL.cell 0, hL.cell 1, hL.cell 2, hL.cell 3, hL.cell 4, hL.cell 5, hL.cell 6, hL.cell 7, hL.cell 8⟩
            clear hK K
            try simp only [Act.put, lay1, lay2, lay3, lay4, lay5, lay6]
            try dsimp only
            try simp only [Act.put, lay1, lay2, lay3, lay4, lay5, lay6]
            refine wpAnyH_done (by kernel_rfl) ?_ _
            refine NoPanic.normal ?_
            go_wp2_with fail
            go_meet
            exact ⟨XB, s11, A11, L11, C11, D11, M11, E11, rfl, q1, hL, x4, h4, x6, h6, q7, q8, h7, q9, h9, q11, h11, hB, lXB, (by assumption), (by assumption), (by assumption), (by assumption), (by assumption)⟩
          · obtain ⟨u13_5, eu, h11, b13_5⟩ := box1 u13_1 32 #[.bool false, .slice none 0 0, .slice none 0 0]
            obtain ⟨XB, en⟩ : ∃ X, X = u13_1.heap.size := ⟨_, rfl⟩
            rw [← en] at h11
            have lXB : w.heap.size ≤ XB := by rw [en]; exact hB.size
            have dXB_hL : g ≠ XB := by have := hL.lt; omega
            have dXB_h4 : X7 ≠ XB := by have := h4.lt; omega
            have dXB_h6 : XA ≠ XB := by have := h6.lt; omega
            have dXB_h7 : X12 ≠ XB := by have := h7.lt; omega
            have dXB_h9 : X16 ≠ XB := by have := h9.lt; omega
            have EUXB := Lib.hid (And.intro eu en)
            clear eu en
            go_simp
            rw [← EUXB.out.1, ← EUXB.out.2]
            replace q1 := q1.below b13_5
            replace q2 := q2.below b13_5
            replace hL := hL.below b13_5 hL.lt
            replace x4 := x4.below b13_5
            replace h4 := h4.below b13_5 h4.lt
            replace x6 := x6.below b13_5
            replace h6 := h6.below b13_5 h6.lt
            replace q7 := q7.below b13_5
            replace q8 := q8.below b13_5
            replace h7 := h7.below b13_5 h7.lt
            replace q9 := q9.below b13_5
            replace h9 := h9.below b13_5 h9.lt
            replace q10 := q10.below b13_5
            replace hB := hB.trans (b13_5.mono hB.size)
            refine hK.out _ _ ?_ (fun hHeld => ?_)
            · exact ⟨h9.cell 0, h9.cell 1, h9.cell 2, hL.cell 0, hL.cell 1, hL.cell 2, hL.cell 3, hL.cell 4, hL.cell 5, hL.cell 6, hL.cell 7, hL.cell 8⟩
            clear hK K
            try simp only [Act.put, lay1, lay2, lay3, lay4, lay5, lay6]
            refine wpAnyH_ready (rs := [6]) (by kernel_rfl) (by simp) (AllReadyH.cons rfl (fun K hK => ?_) AllReadyH.nil)
            go_simp
            refine (hA2 _ _ _ q10 q2).mono ?_
            rintro e u13_6 ⟨v11, rfl, q11, b13_6⟩
            replace q1 := q1.below b13_6
            replace q2 := q2.below b13_6
            replace hL := hL.below b13_6 hL.lt
            replace x4 := x4.below b13_6
            replace h4 := h4.below b13_6 h4.lt
            replace x6 := x6.below b13_6
            replace h6 := h6.below b13_6 h6.lt
            replace q7 := q7.below b13_6
            replace q8 := q8.below b13_6
            replace h7 := h7.below b13_6 h7.lt
            replace q9 := q9.below b13_6
            replace h9 := h9.below b13_6 h9.lt
            replace q10 := q10.below b13_6
            replace h11 := h11.below b13_6 h11.lt
            replace hB := hB.trans (b13_6.mono hB.size)
            obtain ⟨s11, A11, L11, C11, D11, M11, E11, rfl, q11⟩ := q11.opn
            go_wp2_with fail
            refine hK.out _ _ ?_ (fun hHeld => ?_)
            · exact ⟨h9.cell 0, h9.cell 1, h9.cell 2, hL.cell 0, hL.cell 1, hL.cell 2, hL.cell 3, hL.cell 4, hL.cell 5, hL.cell 6, hL.cell 7, hL.cell 8⟩
            clear hK K
            try simp only [Act.put, lay1, lay2, lay3, lay4, lay5, lay6]
            refine wpAnyH_ready (rs := [8]) (by kernel_rfl) (by simp) (AllReadyH.cons rfl (fun K hK => ?_) AllReadyH.nil)
            obtain ⟨u13_7, eu, h11', kz, kb, kB⟩ := fill3 h11 (.bool s11) (.slice A11 L11 C11) (.slice D11 M11 E11) (by simp [noU])
            have x0 : World.cell? _ ⟨XB, 0, none⟩ = some (.bool false) := h11.cell 0
            have x1 : World.cell? _ ⟨XB, 1, none⟩ = some (.slice none 0 0) := h11.cell 1
            have x2 : World.cell? _ ⟨XB, 2, none⟩ = some (.slice none 0 0) := h11.cell 2
            have xf := h11.frozen
            go_simp
            rw [← eu]
            replace q1 := q1.filled kz
            replace q2 := q2.filled kz
            replace hL := kb _ _ _ hL (by omega)
            replace x4 := x4.filled kz
            replace h4 := kb _ _ _ h4 (by omega)
            replace x6 := x6.filled kz
            replace h6 := kb _ _ _ h6 (by omega)
            replace q7 := q7.filled kz
            replace q8 := q8.filled kz
            replace h7 := kb _ _ _ h7 (by omega)
            replace q9 := q9.filled kz
            replace h9 := kb _ _ _ h9 (by omega)
            replace q10 := q10.filled kz
            replace q11 := q11.filled kz
            replace hB := kB _ _ (by omega) hB
            replace h11 := h11'
            clear h11' kz kb kB eu xf x0 x1 x2
            refine hK.out _ _ ?_ (fun hHeld => ?_)
            · exact ⟨h9.cell 0, h9.cell 1, h9.cell 2, hL.cell 0, hL.cell 1, hL.cell 2, hL.cell 3, hL.cell 4, hL.cell 5, hL.cell 6, hL.cell 7, hL.cell 8⟩
            clear hK K
            try simp only [Act.put, lay1, lay2, lay3, lay4, lay5, lay6]
            try dsimp only
            try simp only [Act.put, lay1, lay2, lay3, lay4, lay5, lay6]
            refine wpAnyH_done (by kernel_rfl) ?_ _
            refine NoPanic.normal ?_
            go_wp2_with fail
            go_meet
            exact ⟨XB, s11, A11, L11, C11, D11, M11, E11, rfl, q1, hL, x4, h4, x6, h6, q7, q8, h7, q9, h9, q11, h11, hB, lXB, (by assumption), (by assumption), (by assumption), (by assumption), (by assumption)⟩
        · obtain ⟨u13_8, eu, h11, b13_8⟩ := box1 wd13_3 32 #[.bool false, .slice none 0 0, .slice none 0 0]
          obtain ⟨XB, en⟩ : ∃ X, X = wd13_3.heap.size := ⟨_, rfl⟩
          rw [← en] at h11
          have lXB : w.heap.size ≤ XB := by rw [en]; exact hB.size
          have dXB_hL : g ≠ XB := by have := hL.lt; omega
          have dXB_h4 : X7 ≠ XB := by have := h4.lt; omega
          have dXB_h6 : XA ≠ XB := by have := h6.lt; omega
          have dXB_h7 : X12 ≠ XB := by have := h7.lt; omega
          have dXB_h9 : X16 ≠ XB := by have := h9.lt; omega
          have EUXB := Lib.hid (And.intro eu en)
          clear eu en
          go_simp
          rw [← EUXB.out.1, ← EUXB.out.2]
          replace q1 := q1.below b13_8
          replace q2 := q2.below b13_8
          replace hL := hL.below b13_8 hL.lt
          replace x4 := x4.below b13_8
          replace h4 := h4.below b13_8 h4.lt
          replace x6 := x6.below b13_8
          replace h6 := h6.below b13_8 h6.lt
          replace q7 := q7.below b13_8
          replace q8 := q8.below b13_8
          replace h7 := h7.below b13_8 h7.lt
          replace q9 := q9.below b13_8
          replace h9 := h9.below b13_8 h9.lt
          replace hB := hB.trans (b13_8.mono hB.size)
          refine hK.out _ _ ?_ (fun hHeld => ?_)
          · exact ⟨h9.cell 0, h9.cell 1, h9.cell 2, hL.cell 0, hL.cell 1, hL.cell 2, hL.cell 3, hL.cell 4, hL.cell 5, hL.cell 6, hL.cell 7, hL.cell 8⟩
          clear hK K
          try simp only [Act.put, lay1, lay2, lay3, lay4, lay5, lay6]
          refine wpAnyH_ready (rs := [3]) (by kernel_rfl) (by simp) (AllReadyH.cons rfl (fun K hK => ?_) AllReadyH.nil)
          go_simp
          refine (hM1 _ _ _ q9 q1).mono ?_
          rintro e u13_9 ⟨v10, rfl, q10, b13_9⟩
          replace q1 := q1.below b13_9
          replace q2 := q2.below b13_9
          replace hL := hL.below b13_9 hL.lt
          replace x4 := x4.below b13_9
          replace h4 := h4.below b13_9 h4.lt
          replace x6 := x6.below b13_9
          replace h6 := h6.below b13_9 h6.lt
          replace q7 := q7.below b13_9
          replace q8 := q8.below b13_9
          replace h7 := h7.below b13_9 h7.lt
          replace q9 := q9.below b13_9
          replace h9 := h9.below b13_9 h9.lt
          replace h11 := h11.below b13_9 h11.lt
          replace hB := hB.trans (b13_9.mono hB.size)
          obtain ⟨s10, A10, L10, C10, D10, M10, E10, rfl, q10⟩ := q10.opn
          go_wp2_with fail
          refine hK.out _ _ ?_ (fun hHeld => ?_)
          · exact ⟨h9.cell 0, h9.cell 1, h9.cell 2, hL.cell 0, hL.cell 1, hL.cell 2, hL.cell 3, hL.cell 4, hL.cell 5, hL.cell 6, hL.cell 7, hL.cell 8⟩
          clear hK K
          try simp only [Act.put, lay1, lay2, lay3, lay4, lay5, lay6]
          refine wpAnyH_ready (rs := [6]) (by kernel_rfl) (by simp) (AllReadyH.cons rfl (fun K hK => ?_) AllReadyH.nil)
          go_simp
          refine (hA2 _ _ _ q10 q2).mono ?_
          rintro e u13_10 ⟨v11, rfl, q11, b13_10⟩
          replace q1 := q1.below b13_10
          replace q2 := q2.below b13_10
          replace hL := hL.below b13_10 hL.lt
          replace x4 := x4.below b13_10
          replace h4 := h4.below b13_10 h4.lt
          replace x6 := x6.below b13_10
          replace h6 := h6.below b13_10 h6.lt
          replace q7 := q7.below b13_10
          replace q8 := q8.below b13_10
          replace h7 := h7.below b13_10 h7.lt
          replace q9 := q9.below b13_10
          replace h9 := h9.below b13_10 h9.lt
          replace h11 := h11.below b13_10 h11.lt
          replace q10 := q10.below b13_10
          replace hB := hB.trans (b13_10.mono hB.size)
          obtain ⟨s11, A11, L11, C11, D11, M11, E11, rfl, q11⟩ := q11.opn
          go_wp2_with fail
          refine hK.out _ _ ?_ (fun hHeld => ?_)
          · exact ⟨h9.cell 0, h9.cell 1, h9.cell 2, hL.cell 0, hL.cell 1, hL.cell 2, hL.cell 3, hL.cell 4, hL.cell 5, hL.cell 6, hL.cell 7, hL.cell 8⟩
          clear hK K
          try simp only [Act.put, lay1, lay2, lay3, lay4, lay5, lay6]
          refine wpAnyH_ready (rs := [8]) (by kernel_rfl) (by simp) (AllReadyH.cons rfl (fun K hK => ?_) AllReadyH.nil)
          obtain ⟨u13_11, eu, h11', kz, kb, kB⟩ := fill3 h11 (.bool s11) (.slice A11 L11 C11) (.slice D11 M11 E11) (by simp [noU])
          have x0 : World.cell? _ ⟨XB, 0, none⟩ = some (.bool false) := h11.cell 0
          have x1 : World.cell? _ ⟨XB, 1, none⟩ = some (.slice none 0 0) := h11.cell 1
          have x2 : World.cell? _ ⟨XB, 2, none⟩ = some (.slice none 0 0) := h11.cell 2
          have xf := h11.frozen
          go_simp
          rw [← eu]
          replace q1 := q1.filled kz
          replace q2 := q2.filled kz
          replace hL := kb _ _ _ hL (by omega)
          replace x4 := x4.filled kz
          replace h4 := kb _ _ _ h4 (by omega)
          replace x6 := x6.filled kz
          replace h6 := kb _ _ _ h6 (by omega)
          replace q7 := q7.filled kz
          replace q8 := q8.filled kz
          replace h7 := kb _ _ _ h7 (by omega)
          replace q9 := q9.filled kz
          replace h9 := kb _ _ _ h9 (by omega)
          replace q10 := q10.filled kz
          replace q11 := q11.filled kz
          replace hB := kB _ _ (by omega) hB
          replace h11 := h11'
          clear h11' kz kb kB eu xf x0 x1 x2
          refine hK.out _ _ ?_ (fun hHeld => ?_)
          · exact ⟨h9.cell 0, h9.cell 1, h9.cell 2, hL.cell 0, hL.cell 1, hL.cell 2, hL.cell 3, hL.cell 4, hL.cell 5, hL.cell 6, hL.cell 7, hL.cell 8⟩
          clear hK K
          try simp only [Act.put, lay1, lay2, lay3, lay4, lay5, lay6]
          try dsimp only
          try simp only [Act.put, lay1, lay2, lay3, lay4, lay5, lay6]
          refine wpAnyH_done (by kernel_rfl) ?_ _
          refine NoPanic.normal ?_
          go_wp2_with fail
          go_meet
          exact ⟨XB, s11, A11, L11, C11, D11, M11, E11, rfl, q1, hL, x4, h4, x6, h6, q7, q8, h7, q9, h9, q11, h11, hB, lXB, (by assumption), (by assumption), (by assumption), (by assumption), (by assumption)⟩
      obtain ⟨XB, s11, A11, L11, C11, D11, M11, E11, rfl, q1, hL, x4, h4, x6, h6, q7, q8, h7, q9, h9, q11, h11, hB, lXB, dXB_hL, dXB_h4, dXB_h6, dXB_h7, dXB_h9⟩ := hcut
      obtain ⟨c154, c155, c156, c157, c158, c159, c160, c161, c162⟩ := hL.q9
      obtain ⟨c163, c164, c165⟩ := h4.q3
      obtain ⟨c166, c167, c168⟩ := h6.q3
      obtain ⟨c169, c170, c171, c172, c173, c174⟩ := h7.q6
      obtain ⟨c175, c176, c177⟩ := h9.q3
      obtain ⟨c178, c179, c180⟩ := h11.q3
      go_wp2_with fail
      refine (hSu _ _ _ x4 q11).mono ?_
      rintro e w19 ⟨v12, rfl, q12, b19⟩
      replace q1 := q1.below b19
      replace hL := hL.below b19 hL.lt
      replace x4 := x4.below b19
      replace h4 := h4.below b19 h4.lt
      replace x6 := x6.below b19
      replace h6 := h6.below b19 h6.lt
      replace q7 := q7.below b19
      replace q8 := q8.below b19
      replace h7 := h7.below b19 h7.lt
      replace q9 := q9.below b19
      replace h9 := h9.below b19 h9.lt
      replace q11 := q11.below b19
      replace h11 := h11.below b19 h11.lt
      replace hB := hB.trans (b19.mono hB.size)
      clear c154 c155 c156 c157 c158 c159 c160 c161 c162 c163 c164 c165 c166 c167 c168 c169 c170 c171 c172 c173 c174 c175 c176 c177 c178 c179 c180
      obtain ⟨c181, c182, c183, c184, c185, c186, c187, c188, c189⟩ := hL.q9
      obtain ⟨c190, c191, c192⟩ := h4.q3
      obtain ⟨c193, c194, c195⟩ := h6.q3
      obtain ⟨c196, c197, c198, c199, c200, c201⟩ := h7.q6
      obtain ⟨c202, c203, c204⟩ := h9.q3
      obtain ⟨c205, c206, c207⟩ := h11.q3
      obtain ⟨s12, A12, L12, C12, D12, M12, E12, rfl, q12⟩ := q12.opn
      obtain rfl : s12 = false := by rw [q12.parts.1]; exact u1'
      obtain ⟨V21, eV, h12, bV21⟩ := box1 w19 32 #[.bool false, .slice A12 L12 C12, .slice D12 M12 E12]
      obtain ⟨X21, eX⟩ : ∃ X, X = w19.heap.size := ⟨_, rfl⟩
      rw [← eX] at h12
      have lX21 : w.heap.size ≤ X21 := by rw [eX]; exact hB.size
      have dX21_hL : g ≠ X21 := by have := hL.lt; omega
      have dX21_h4 : X7 ≠ X21 := by have := h4.lt; omega
      have dX21_h6 : XA ≠ X21 := by have := h6.lt; omega
      have dX21_h7 : X12 ≠ X21 := by have := h7.lt; omega
      have dX21_h9 : X16 ≠ X21 := by have := h9.lt; omega
      have EV21 := Lib.hid (And.intro eV eX)
      clear eV eX
      go_upto_region 15 with fail
      rw [← EV21.out.1, ← EV21.out.2]
      replace q1 := q1.below bV21
      replace hL := hL.below bV21 hL.lt
      replace x4 := x4.below bV21
      replace h4 := h4.below bV21 h4.lt
      replace x6 := x6.below bV21
      replace h6 := h6.below bV21 h6.lt
      replace q7 := q7.below bV21
      replace q8 := q8.below bV21
      replace h7 := h7.below bV21 h7.lt
      replace q9 := q9.below bV21
      replace h9 := h9.below bV21 h9.lt
      replace q12 := q12.below bV21
      replace hB := hB.trans (bV21.mono hB.size)
      clear c181 c182 c183 c184 c185 c186 c187 c188 c189 c190 c191 c192 c193 c194 c195 c196 c197 c198 c199 c200 c201 c202 c203 c204 c205 c206 c207
      obtain ⟨c208, c209, c210, c211, c212, c213, c214, c215, c216⟩ := hL.q9
      obtain ⟨c217, c218, c219⟩ := h4.q3
      obtain ⟨c220, c221, c222⟩ := h6.q3
      obtain ⟨c223, c224, c225, c226, c227, c228⟩ := h7.q6
      obtain ⟨c229, c230, c231⟩ := h9.q3
      obtain ⟨c232, c233, c234⟩ := h12.q3
      go_wp2_with fail
      refine (hFr _).mono ?_
      rintro e w23 ⟨v13, rfl, q13, b23⟩
      replace q1 := q1.below b23
      replace hL := hL.below b23 hL.lt
      replace x4 := x4.below b23
      replace h4 := h4.below b23 h4.lt
      replace x6 := x6.below b23
      replace h6 := h6.below b23 h6.lt
      replace q7 := q7.below b23
      replace q8 := q8.below b23
      replace h7 := h7.below b23 h7.lt
      replace q9 := q9.below b23
      replace h9 := h9.below b23 h9.lt
      replace q12 := q12.below b23
      replace h12 := h12.below b23 h12.lt
      replace hB := hB.trans (b23.mono hB.size)
      clear c208 c209 c210 c211 c212 c213 c214 c215 c216 c217 c218 c219 c220 c221 c222 c223 c224 c225 c226 c227 c228 c229 c230 c231 c232 c233 c234
      obtain ⟨c235, c236, c237, c238, c239, c240, c241, c242, c243⟩ := hL.q9
      obtain ⟨c244, c245, c246⟩ := h4.q3
      obtain ⟨c247, c248, c249⟩ := h6.q3
      obtain ⟨c250, c251, c252, c253, c254, c255⟩ := h7.q6
      obtain ⟨c256, c257, c258⟩ := h9.q3
      obtain ⟨c259, c260, c261⟩ := h12.q3
      obtain ⟨s13, A13, L13, C13, D13, M13, E13, rfl, q13⟩ := q13.opn
      obtain ⟨V25, eV, h13, bV25⟩ := box1 w23 32 #[.bool s13, .slice A13 L13 C13, .slice D13 M13 E13]
      obtain ⟨X25, eX⟩ : ∃ X, X = w23.heap.size := ⟨_, rfl⟩
      rw [← eX] at h13
      have lX25 : w.heap.size ≤ X25 := by rw [eX]; exact hB.size
      have dX25_hL : g ≠ X25 := by have := hL.lt; omega
      have dX25_h4 : X7 ≠ X25 := by have := h4.lt; omega
      have dX25_h6 : XA ≠ X25 := by have := h6.lt; omega
      have dX25_h7 : X12 ≠ X25 := by have := h7.lt; omega
      have dX25_h9 : X16 ≠ X25 := by have := h9.lt; omega
      have dX25_h12 : X21 ≠ X25 := by have := h12.lt; omega
      have EV25 := Lib.hid (And.intro eV eX)
      clear eV eX
      go_upto_region 16 with fail
      rw [← EV25.out.1, ← EV25.out.2]
      replace q1 := q1.below bV25
      replace hL := hL.below bV25 hL.lt
      replace x4 := x4.below bV25
      replace h4 := h4.below bV25 h4.lt
      replace x6 := x6.below bV25
      replace h6 := h6.below bV25 h6.lt
      replace q7 := q7.below bV25
      replace q8 := q8.below bV25
      replace h7 := h7.below bV25 h7.lt
      replace q9 := q9.below bV25
      replace h9 := h9.below bV25 h9.lt
      replace q12 := q12.below bV25
      replace h12 := h12.below bV25 h12.lt
      replace q13 := q13.below bV25
      replace hB := hB.trans (bV25.mono hB.size)
      clear c235 c236 c237 c238 c239 c240 c241 c242 c243 c244 c245 c246 c247 c248 c249 c250 c251 c252 c253 c254 c255 c256 c257 c258 c259 c260 c261
      obtain ⟨c262, c263, c264, c265, c266, c267, c268, c269, c270⟩ := hL.q9
      obtain ⟨c271, c272, c273⟩ := h4.q3
      obtain ⟨c274, c275, c276⟩ := h6.q3
      obtain ⟨c277, c278, c279, c280, c281, c282⟩ := h7.q6
      obtain ⟨c283, c284, c285⟩ := h9.q3
      obtain ⟨c286, c287, c288⟩ := h12.q3
      obtain ⟨c289, c290, c291⟩ := h13.q3
      go_wp2_with fail
      refine (hRn _).mono ?_
      rintro e w27 ⟨v14, rfl, q14, b27⟩
      replace q1 := q1.below b27
      replace hL := hL.below b27 hL.lt
      replace x4 := x4.below b27
      replace h4 := h4.below b27 h4.lt
      replace x6 := x6.below b27
      replace h6 := h6.below b27 h6.lt
      replace q7 := q7.below b27
      replace q8 := q8.below b27
      replace h7 := h7.below b27 h7.lt
      replace q9 := q9.below b27
      replace h9 := h9.below b27 h9.lt
      replace q12 := q12.below b27
      replace h12 := h12.below b27 h12.lt
      replace q13 := q13.below b27
      replace h13 := h13.below b27 h13.lt
      replace hB := hB.trans (b27.mono hB.size)
      clear c262 c263 c264 c265 c266 c267 c268 c269 c270 c271 c272 c273 c274 c275 c276 c277 c278 c279 c280 c281 c282 c283 c284 c285 c286 c287 c288 c289 c290 c291
      obtain ⟨c292, c293, c294, c295, c296, c297, c298, c299, c300⟩ := hL.q9
      obtain ⟨c301, c302, c303⟩ := h4.q3
      obtain ⟨c304, c305, c306⟩ := h6.q3
      obtain ⟨c307, c308, c309, c310, c311, c312⟩ := h7.q6
      obtain ⟨c313, c314, c315⟩ := h9.q3
      obtain ⟨c316, c317, c318⟩ := h12.q3
      obtain ⟨c319, c320, c321⟩ := h13.q3
      obtain ⟨s14, A14, L14, C14, D14, M14, E14, rfl, q14⟩ := q14.opn
      obtain ⟨V29, eV, h14, bV29⟩ := box1 w27 32 #[.bool s14, .slice A14 L14 C14, .slice D14 M14 E14]
      obtain ⟨X29, eX⟩ : ∃ X, X = w27.heap.size := ⟨_, rfl⟩
      rw [← eX] at h14
      have lX29 : w.heap.size ≤ X29 := by rw [eX]; exact hB.size
      have dX29_hL : g ≠ X29 := by have := hL.lt; omega
      have dX29_h4 : X7 ≠ X29 := by have := h4.lt; omega
      have dX29_h6 : XA ≠ X29 := by have := h6.lt; omega
      have dX29_h7 : X12 ≠ X29 := by have := h7.lt; omega
      have dX29_h9 : X16 ≠ X29 := by have := h9.lt; omega
      have dX29_h12 : X21 ≠ X29 := by have := h12.lt; omega
      have dX29_h13 : X25 ≠ X29 := by have := h13.lt; omega
      have EV29 := Lib.hid (And.intro eV eX)
      clear eV eX
      go_upto_region 17 with fail
      rw [← EV29.out.1, ← EV29.out.2]
      replace q1 := q1.below bV29
      replace hL := hL.below bV29 hL.lt
      replace x4 := x4.below bV29
      replace h4 := h4.below bV29 h4.lt
      replace x6 := x6.below bV29
      replace h6 := h6.below bV29 h6.lt
      replace q7 := q7.below bV29
      replace q8 := q8.below bV29
      replace h7 := h7.below bV29 h7.lt
      replace q9 := q9.below bV29
      replace h9 := h9.below bV29 h9.lt
      replace q12 := q12.below bV29
      replace h12 := h12.below bV29 h12.lt
      replace q13 := q13.below bV29
      replace h13 := h13.below bV29 h13.lt
      replace q14 := q14.below bV29
      replace hB := hB.trans (bV29.mono hB.size)
      clear c292 c293 c294 c295 c296 c297 c298 c299 c300 c301 c302 c303 c304 c305 c306 c307 c308 c309 c310 c311 c312 c313 c314 c315 c316 c317 c318 c319 c320 c321
      obtain ⟨c322, c323, c324, c325, c326, c327, c328, c329, c330⟩ := hL.q9
      obtain ⟨c331, c332, c333⟩ := h4.q3
      obtain ⟨c334, c335, c336⟩ := h6.q3
      obtain ⟨c337, c338, c339, c340, c341, c342⟩ := h7.q6
      obtain ⟨c343, c344, c345⟩ := h9.q3
      obtain ⟨c346, c347, c348⟩ := h12.q3
      obtain ⟨c349, c350, c351⟩ := h13.q3
      obtain ⟨c352, c353, c354⟩ := h14.q3
      replace hB := hB.drew
      replace q1 := q1.below (bdrew _)
      replace hL := hL.drew
      replace x4 := x4.below (bdrew _)
      replace h4 := h4.drew
      replace x6 := x6.below (bdrew _)
      replace h6 := h6.drew
      replace q7 := q7.below (bdrew _)
      replace q8 := q8.below (bdrew _)
      replace h7 := h7.drew
      replace q9 := q9.below (bdrew _)
      replace h9 := h9.drew
      replace q12 := q12.below (bdrew _)
      replace h12 := h12.drew
      replace q13 := q13.below (bdrew _)
      replace h13 := h13.drew
      replace q14 := q14.below (bdrew _)
      replace h14 := h14.drew
      clear c322 c323 c324 c325 c326 c327 c328 c329 c330 c331 c332 c333 c334 c335 c336 c337 c338 c339 c340 c341 c342 c343 c344 c345 c346 c347 c348 c349 c350 c351 c352 c353 c354
      refine wp_region_noPanic ?_
      refine wp_region_held_drew (S := fun w' => w'.cell? ⟨X16, 0, none⟩ = some (.bool s9) ∧ w'.cell? ⟨X16, 1, none⟩ = some (.slice A9 L9 C9) ∧ w'.cell? ⟨X16, 2, none⟩ = some (.slice D9 M9 E9) ∧ w'.cell? ⟨g, 0, none⟩ = some (.bool false) ∧ w'.cell? ⟨g, 1, none⟩ = some (.slice A1 l1.length C1) ∧ w'.cell? ⟨g, 2, none⟩ = some (.slice D1 m1.length E1) ∧ w'.cell? ⟨g, 3, none⟩ = some (.bool false) ∧ w'.cell? ⟨g, 4, none⟩ = some (.slice A2 l2.length C2) ∧ w'.cell? ⟨g, 5, none⟩ = some (.slice D2 m2.length E2) ∧ w'.cell? ⟨g, 6, none⟩ = some (.bool false) ∧ w'.cell? ⟨g, 7, none⟩ = some (.slice A3 l3.length C3) ∧ w'.cell? ⟨g, 8, none⟩ = some (.slice D3 m3.length E3)) (by kernel_rfl) ?_ (fun hHeld => ?_)
      · exact ⟨h9.cell 0, h9.cell 1, h9.cell 2, hL.cell 0, hL.cell 1, hL.cell 2, hL.cell 3, hL.cell 4, hL.cell 5, hL.cell 6, hL.cell 7, hL.cell 8⟩
      obtain ⟨wd17_4, hwd⟩ : ∃ q, q = V29.drew := ⟨_, rfl⟩
      rw [← hwd] at hB q1 hL x4 h4 x6 h6 q7 q8 h7 q9 h9 q12 h12 q13 h13 q14 h14 hHeld ⊢
      clear hwd
      refine tkH 0 rfl (v := ?v94) ?h94 ?r94
      case h94 => intro w hSw; (try dsimp only at hSw); go_simp; try (with_reducible rfl)
      refine tkH 1 rfl (v := ?v95) ?h95 ?r95
      case h95 => intro w hSw; (try dsimp only at hSw); go_simp; try (with_reducible rfl)
      refine tkH 2 rfl (v := ?v96) ?h96 ?r96
      case h96 => intro w hSw; (try dsimp only at hSw); go_simp; try (with_reducible rfl)
      refine tkH 4 rfl (v := ?v97) ?h97 ?r97
      case h97 => intro w hSw; (try dsimp only at hSw); go_simp; try (with_reducible rfl)
      refine tkH 5 rfl (v := ?v98) ?h98 ?r98
      case h98 => intro w hSw; (try dsimp only at hSw); go_simp; try (with_reducible rfl)
      try simp only [Act.put, lay1, lay2, lay3, lay4, lay5, lay6]
      refine wpAnyH_ready (rs := [3]) (by kernel_rfl) (by simp) (AllReadyH.cons rfl (fun K hK => ?_) AllReadyH.nil)
      go_simp
      refine (hSt _ _ q9).mono ?_
      rintro e u17_1 ⟨v15, rfl, q15, b17_1⟩
      replace q1 := q1.below b17_1
      replace hL := hL.below b17_1 hL.lt
      replace x4 := x4.below b17_1
      replace h4 := h4.below b17_1 h4.lt
      replace x6 := x6.below b17_1
      replace h6 := h6.below b17_1 h6.lt
      replace q7 := q7.below b17_1
      replace q8 := q8.below b17_1
      replace h7 := h7.below b17_1 h7.lt
      replace q9 := q9.below b17_1
      replace h9 := h9.below b17_1 h9.lt
      replace q12 := q12.below b17_1
      replace h12 := h12.below b17_1 h12.lt
      replace q13 := q13.below b17_1
      replace h13 := h13.below b17_1 h13.lt
      replace q14 := q14.below b17_1
      replace h14 := h14.below b17_1 h14.lt
      replace hB := hB.trans (b17_1.mono hB.size)
      obtain ⟨s15, A15, L15, C15, D15, M15, E15, rfl, q15⟩ := q15.opn
      go_wp2_with fail
      refine hK.out _ _ ?_ (fun hHeld => ?_)
      · exact ⟨h9.cell 0, h9.cell 1, h9.cell 2, hL.cell 0, hL.cell 1, hL.cell 2, hL.cell 3, hL.cell 4, hL.cell 5, hL.cell 6, hL.cell 7, hL.cell 8⟩
      clear hK K
      try simp only [Act.put, lay1, lay2, lay3, lay4, lay5, lay6]
      refine wpAnyH_ready (rs := [6]) (by kernel_rfl) (by simp) (AllReadyH.cons rfl (fun K hK => ?_) AllReadyH.nil)
      go_simp
      refine (hC1 _ _ _ q15 q1).mono ?_
      rintro e u17_2 ⟨rfl, b17_2⟩
      replace q1 := q1.below b17_2
      replace hL := hL.below b17_2 hL.lt
      replace x4 := x4.below b17_2
      replace h4 := h4.below b17_2 h4.lt
      replace x6 := x6.below b17_2
      replace h6 := h6.below b17_2 h6.lt
      replace q7 := q7.below b17_2
      replace q8 := q8.below b17_2
      replace h7 := h7.below b17_2 h7.lt
      replace q9 := q9.below b17_2
      replace h9 := h9.below b17_2 h9.lt
      replace q12 := q12.below b17_2
      replace h12 := h12.below b17_2 h12.lt
      replace q13 := q13.below b17_2
      replace h13 := h13.below b17_2 h13.lt
      replace q14 := q14.below b17_2
      replace h14 := h14.below b17_2 h14.lt
      replace q15 := q15.below b17_2
      replace hB := hB.trans (b17_2.mono hB.size)
      go_wp2_with fail
      refine hK.out _ _ ?_ (fun hHeld => ?_)
      · exact ⟨h9.cell 0, h9.cell 1, h9.cell 2, hL.cell 0, hL.cell 1, hL.cell 2, hL.cell 3, hL.cell 4, hL.cell 5, hL.cell 6, hL.cell 7, hL.cell 8⟩
      clear hK K
      refine tkH 7 rfl (v := ?v99) ?h99 ?r99
      case h99 => intro w hSw; (try dsimp only at hSw); go_simp; try (with_reducible rfl)
      refine tkH 8 rfl (v := ?v100) ?h100 ?r100
      case h100 => intro w hSw; (try dsimp only at hSw); go_simp; try (with_reducible rfl)
      try simp only [Act.put, lay1, lay2, lay3, lay4, lay5, lay6]
      try dsimp only
      try simp only [Act.put, lay1, lay2, lay3, lay4, lay5, lay6]
      refine wpAnyH_done (by kernel_rfl) ?_ _
      refine NoPanic.normal ?_
      skip
      obtain ⟨c355, c356, c357, c358, c359, c360, c361, c362, c363⟩ := hL.q9
      obtain ⟨c364, c365, c366⟩ := h4.q3
      obtain ⟨c367, c368, c369⟩ := h6.q3
      obtain ⟨c370, c371, c372, c373, c374, c375⟩ := h7.q6
      obtain ⟨c376, c377, c378⟩ := h9.q3
      obtain ⟨c379, c380, c381⟩ := h12.q3
      obtain ⟨c382, c383, c384⟩ := h13.q3
      obtain ⟨c385, c386, c387⟩ := h14.q3
      go_wp2_with fail
      refine (hC2 _ _ _ q12 q13).mono ?_
      rintro e w33 ⟨rfl, b33⟩
      replace q1 := q1.below b33
      replace hL := hL.below b33 hL.lt
      replace x4 := x4.below b33
      replace h4 := h4.below b33 h4.lt
      replace x6 := x6.below b33
      replace h6 := h6.below b33 h6.lt
      replace q7 := q7.below b33
      replace q8 := q8.below b33
      replace h7 := h7.below b33 h7.lt
      replace q9 := q9.below b33
      replace h9 := h9.below b33 h9.lt
      replace q12 := q12.below b33
      replace h12 := h12.below b33 h12.lt
      replace q13 := q13.below b33
      replace h13 := h13.below b33 h13.lt
      replace q14 := q14.below b33
      replace h14 := h14.below b33 h14.lt
      replace hB := hB.trans (b33.mono hB.size)
      clear c355 c356 c357 c358 c359 c360 c361 c362 c363 c364 c365 c366 c367 c368 c369 c370 c371 c372 c373 c374 c375 c376 c377 c378 c379 c380 c381 c382 c383 c384 c385 c386 c387
      obtain ⟨c388, c389, c390, c391, c392, c393, c394, c395, c396⟩ := hL.q9
      obtain ⟨c397, c398, c399⟩ := h4.q3
      obtain ⟨c400, c401, c402⟩ := h6.q3
      obtain ⟨c403, c404, c405, c406, c407, c408⟩ := h7.q6
      obtain ⟨c409, c410, c411⟩ := h9.q3
      obtain ⟨c412, c413, c414⟩ := h12.q3
      obtain ⟨c415, c416, c417⟩ := h13.q3
      obtain ⟨c418, c419, c420⟩ := h14.q3
      go_wp2_with fail
      refine (hC3 _ _ _ x4 x6).mono ?_
      rintro e w35 ⟨rfl, b35⟩
      replace q1 := q1.below b35
      replace hL := hL.below b35 hL.lt
      replace x4 := x4.below b35
      replace h4 := h4.below b35 h4.lt
      replace x6 := x6.below b35
      replace h6 := h6.below b35 h6.lt
      replace q7 := q7.below b35
      replace q8 := q8.below b35
      replace h7 := h7.below b35 h7.lt
      replace q9 := q9.below b35
      replace h9 := h9.below b35 h9.lt
      replace q12 := q12.below b35
      replace h12 := h12.below b35 h12.lt
      replace q13 := q13.below b35
      replace h13 := h13.below b35 h13.lt
      replace q14 := q14.below b35
      replace h14 := h14.below b35 h14.lt
      replace hB := hB.trans (b35.mono hB.size)
      clear c388 c389 c390 c391 c392 c393 c394 c395 c396 c397 c398 c399 c400 c401 c402 c403 c404 c405 c406 c407 c408 c409 c410 c411 c412 c413 c414 c415 c416 c417 c418 c419 c420
      obtain ⟨c421, c422, c423, c424, c425, c426, c427, c428, c429⟩ := hL.q9
      obtain ⟨c430, c431, c432⟩ := h4.q3
      obtain ⟨c433, c434, c435⟩ := h6.q3
      obtain ⟨c436, c437, c438, c439, c440, c441⟩ := h7.q6
      obtain ⟨c442, c443, c444⟩ := h9.q3
      obtain ⟨c445, c446, c447⟩ := h12.q3
      obtain ⟨c448, c449, c450⟩ := h13.q3
      obtain ⟨c451, c452, c453⟩ := h14.q3
      go_wp2_with fail
      refine (hA _).mono ?_
      rintro e w37 ⟨rfl, b37⟩
      replace q1 := q1.below b37
      replace hL := hL.below b37 hL.lt
      replace x4 := x4.below b37
      replace h4 := h4.below b37 h4.lt
      replace x6 := x6.below b37
      replace h6 := h6.below b37 h6.lt
      replace q7 := q7.below b37
      replace q8 := q8.below b37
      replace h7 := h7.below b37 h7.lt
      replace q9 := q9.below b37
      replace h9 := h9.below b37 h9.lt
      replace q12 := q12.below b37
      replace h12 := h12.below b37 h12.lt
      replace q13 := q13.below b37
      replace h13 := h13.below b37 h13.lt
      replace q14 := q14.below b37
      replace h14 := h14.below b37 h14.lt
      replace hB := hB.trans (b37.mono hB.size)
      clear c421 c422 c423 c424 c425 c426 c427 c428 c429 c430 c431 c432 c433 c434 c435 c436 c437 c438 c439 c440 c441 c442 c443 c444 c445 c446 c447 c448 c449 c450 c451 c452 c453
      obtain ⟨c454, c455, c456, c457, c458, c459, c460, c461, c462⟩ := hL.q9
      obtain ⟨c463, c464, c465⟩ := h4.q3
      obtain ⟨c466, c467, c468⟩ := h6.q3
      obtain ⟨c469, c470, c471, c472, c473, c474⟩ := h7.q6
      obtain ⟨c475, c476, c477⟩ := h9.q3
      obtain ⟨c478, c479, c480⟩ := h12.q3
      obtain ⟨c481, c482, c483⟩ := h13.q3
      obtain ⟨c484, c485, c486⟩ := h14.q3
      go_wp2_with fail
      refine (hH1 _ _ _ ⟨_, _, _, _, _, _, rfl, q7, q8⟩ q14).mono ?_
      rintro e w39 ⟨rfl, b39⟩
      replace q1 := q1.below b39
      replace hL := hL.below b39 hL.lt
      replace x4 := x4.below b39
      replace h4 := h4.below b39 h4.lt
      replace x6 := x6.below b39
      replace h6 := h6.below b39 h6.lt
      replace q7 := q7.below b39
      replace q8 := q8.below b39
      replace h7 := h7.below b39 h7.lt
      replace q9 := q9.below b39
      replace h9 := h9.below b39 h9.lt
      replace q12 := q12.below b39
      replace h12 := h12.below b39 h12.lt
      replace q13 := q13.below b39
      replace h13 := h13.below b39 h13.lt
      replace q14 := q14.below b39
      replace h14 := h14.below b39 h14.lt
      replace hB := hB.trans (b39.mono hB.size)
      clear c454 c455 c456 c457 c458 c459 c460 c461 c462 c463 c464 c465 c466 c467 c468 c469 c470 c471 c472 c473 c474 c475 c476 c477 c478 c479 c480 c481 c482 c483 c484 c485 c486
      obtain ⟨c487, c488, c489, c490, c491, c492, c493, c494, c495⟩ := hL.q9
      obtain ⟨c496, c497, c498⟩ := h4.q3
      obtain ⟨c499, c500, c501⟩ := h6.q3
      obtain ⟨c502, c503, c504, c505, c506, c507⟩ := h7.q6
      obtain ⟨c508, c509, c510⟩ := h9.q3
      obtain ⟨c511, c512, c513⟩ := h12.q3
      obtain ⟨c514, c515, c516⟩ := h13.q3
      obtain ⟨c517, c518, c519⟩ := h14.q3
      go_wp2_with fail
      refine (hH2 _ _ _ ⟨_, _, _, _, _, _, rfl, q7, q8⟩ q9).mono ?_
      rintro e w41 ⟨rfl, b41⟩
      replace q1 := q1.below b41
      replace hL := hL.below b41 hL.lt
      replace x4 := x4.below b41
      replace h4 := h4.below b41 h4.lt
      replace x6 := x6.below b41
      replace h6 := h6.below b41 h6.lt
      replace q7 := q7.below b41
      replace q8 := q8.below b41
      replace h7 := h7.below b41 h7.lt
      replace q9 := q9.below b41
      replace h9 := h9.below b41 h9.lt
      replace q12 := q12.below b41
      replace h12 := h12.below b41 h12.lt
      replace q13 := q13.below b41
      replace h13 := h13.below b41 h13.lt
      replace q14 := q14.below b41
      replace h14 := h14.below b41 h14.lt
      replace hB := hB.trans (b41.mono hB.size)
      clear c487 c488 c489 c490 c491 c492 c493 c494 c495 c496 c497 c498 c499 c500 c501 c502 c503 c504 c505 c506 c507 c508 c509 c510 c511 c512 c513 c514 c515 c516 c517 c518 c519
      obtain ⟨c520, c521, c522, c523, c524, c525, c526, c527, c528⟩ := hL.q9
      obtain ⟨c529, c530, c531⟩ := h4.q3
      obtain ⟨c532, c533, c534⟩ := h6.q3
      obtain ⟨c535, c536, c537, c538, c539, c540⟩ := h7.q6
      obtain ⟨c541, c542, c543⟩ := h9.q3
      obtain ⟨c544, c545, c546⟩ := h12.q3
      obtain ⟨c547, c548, c549⟩ := h13.q3
      obtain ⟨c550, c551, c552⟩ := h14.q3
      go_wp2
      go_ret
      exact ⟨rfl, hB⟩
theorem TrackUp_all (s1 s2 s3 : Bool) (A1 D1 A2 D2 A3 D3 : Option Addr) (C1 E1 C2 E2 C3 E3 : Nat) (l1 m1 l2 m2 l3 m3 : List Nat) (beta f near : Int) (w : World) (r1 : RawQ w s1 (.slice A1 l1.length C1) (.slice D1 m1.length E1) l1 m1) (r2 : RawQ w s2 (.slice A2 l2.length C2) (.slice D2 m2.length E2) l2 m2) (r3 : RawQ w s3 (.slice A3 l3.length C3) (.slice D3 m3.length E3) l3 m3) (hb : In64 beta) (hnr : In64 near) :
    Calls Tryz.prog 4 #[.agg #[.bool s1, .slice A1 l1.length C1, .slice D1 m1.length E1, .bool s2, .slice A2 l2.length C2, .slice D2 m2.length E2, .bool s3, .slice A3 l3.length C3, .slice D3 m3.length E3], .agg #[.int .i64 beta, .int .i64 f], .int .i64 near] w fun e w' => e = .returned (.bool true) ∧ Below w.heap.size w w' := by
  cases f1 : fewQ s1 l1 m1 3
  · exact TrackUp_u1a s1 s2 s3 A1 D1 A2 D2 A3 D3 C1 E1 C2 E2 C3 E3 l1 m1 l2 m2 l3 m3 beta f near w r1 r2 r3 hb hnr f1
  rcases Bool.eq_false_or_eq_true s1 with n1 | n1
  · exact TrackUp_u1b s1 s2 s3 A1 D1 A2 D2 A3 D3 C1 E1 C2 E2 C3 E3 l1 m1 l2 m2 l3 m3 beta f near w r1 r2 r3 hb hnr f1 n1
  cases f2 : fewQ s2 l2 m2 3
  · exact TrackUp_u2a s1 s2 s3 A1 D1 A2 D2 A3 D3 C1 E1 C2 E2 C3 E3 l1 m1 l2 m2 l3 m3 beta f near w r1 r2 r3 hb hnr f1 n1 f2
  rcases Bool.eq_false_or_eq_true s2 with n2 | n2
  · exact TrackUp_u2b s1 s2 s3 A1 D1 A2 D2 A3 D3 C1 E1 C2 E2 C3 E3 l1 m1 l2 m2 l3 m3 beta f near w r1 r2 r3 hb hnr f1 n1 f2 n2
  cases f3 : fewQ s3 l3 m3 3
  · exact TrackUp_u3a s1 s2 s3 A1 D1 A2 D2 A3 D3 C1 E1 C2 E2 C3 E3 l1 m1 l2 m2 l3 m3 beta f near w r1 r2 r3 hb hnr f1 n1 f2 n2 f3
  rcases Bool.eq_false_or_eq_true s3 with n3 | n3
  · exact TrackUp_u3b s1 s2 s3 A1 D1 A2 D2 A3 D3 C1 E1 C2 E2 C3 E3 l1 m1 l2 m2 l3 m3 beta f near w r1 r2 r3 hb hnr f1 n1 f2 n2 f3 n3
  cases hbn : nextBad beta f (theQ s1 l1 m1) (theQ s2 l2 m2)
  · exact TrackUp_good s1 s2 s3 A1 D1 A2 D2 A3 D3 C1 E1 C2 E2 C3 E3 l1 m1 l2 m2 l3 m3 beta f near w r1 r2 r3 hb hnr f1 n1 f2 n2 f3 n3 hbn
  · exact TrackUp_bad s1 s2 s3 A1 D1 A2 D2 A3 D3 C1 E1 C2 E2 C3 E3 l1 m1 l2 m2 l3 m3 beta f near w r1 r2 r3 hb hnr f1 n1 f2 n2 f3 n3 hbn
end Go.Proofs.YtdnjdglekifhpaaGreat
