/- IN: of intervals in others all updates are in theirs. No conditions: every input. -/
import Derived.Laws.Rows
import Derived.Outline
import Derived.Lib.SmallJoins
import Derived.Test.YtdnjdglekifhpaaGreatTed
namespace Go.Proofs.YtdnjdglekifhpaaGreat
open Go.RowKit
attribute [local go_sem ↓] Go.wp_at_zero Go.wp_at_succ
theorem Blk.q13 {w : World} {G : Nat} {t : TypeId} {x0 x1 x2 x3 x4 x5 x6 x7 x8 x9 x10 x11 x12 : Value} (hb : Blk w G t #[x0, x1, x2, x3, x4, x5, x6, x7, x8, x9, x10, x11, x12]) : w.cell? ⟨G, 0, none⟩ = some x0 ∧ w.cell? ⟨G, 1, none⟩ = some x1 ∧ w.cell? ⟨G, 2, none⟩ = some x2 ∧ w.cell? ⟨G, 3, none⟩ = some x3 ∧ w.cell? ⟨G, 4, none⟩ = some x4 ∧ w.cell? ⟨G, 5, none⟩ = some x5 ∧ w.cell? ⟨G, 6, none⟩ = some x6 ∧ w.cell? ⟨G, 7, none⟩ = some x7 ∧ w.cell? ⟨G, 8, none⟩ = some x8 ∧ w.cell? ⟨G, 9, none⟩ = some x9 ∧ w.cell? ⟨G, 10, none⟩ = some x10 ∧ w.cell? ⟨G, 11, none⟩ = some x11 ∧ w.cell? ⟨G, 12, none⟩ = some x12 :=
 ⟨hb.cell 0, hb.cell 1, hb.cell 2, hb.cell 3, hb.cell 4, hb.cell 5, hb.cell 6, hb.cell 7, hb.cell 8, hb.cell 9, hb.cell 10, hb.cell 11, hb.cell 12⟩
theorem fill12 {w : World} {R : Nat} {t : TypeId} {x0 x1 x2 x3 x4 x5 x6 x7 x8 x9 x10 x11 : Value} (hR : Blk w R t #[x0, x1, x2, x3, x4, x5, x6, x7, x8, x9, x10, x11]) (y0 y1 y2 y3 y4 y5 y6 y7 y8 y9 y10 y11 : Value) (hcs : (#[x0, x1, x2, x3, x4, x5, x6, x7, x8, x9, x10, x11] : Array Value).all noU = true) : ∃ W, W = ((((((((((((w.setCell ⟨R, 0, none⟩ y0).setCell ⟨R, 1, none⟩ y1).setCell ⟨R, 2, none⟩ y2).setCell ⟨R, 3, none⟩ y3).setCell ⟨R, 4, none⟩ y4).setCell ⟨R, 5, none⟩ y5).setCell ⟨R, 6, none⟩ y6).setCell ⟨R, 7, none⟩ y7).setCell ⟨R, 8, none⟩ y8).setCell ⟨R, 9, none⟩ y9).setCell ⟨R, 10, none⟩ y10).setCell ⟨R, 11, none⟩ y11) ∧ Filled w W R t #[y0, y1, y2, y3, y4, y5, y6, y7, y8, y9, y10, y11] :=
 ⟨_, rfl, by simpa using ((((((((((((hR.set_ 0 y0).set_ 1 y1).set_ 2 y2).set_ 3 y3).set_ 4 y4).set_ 5 y5).set_ 6 y6).set_ 7 y7).set_ 8 y8).set_ 9 y9).set_ 10 y10).set_ 11 y11), fun v l h => h.keepBlk hR hcs (fun k hk => ((Below.heap_setCell _ ⟨R, 11, none⟩ y11 k hk).trans ((Below.heap_setCell _ ⟨R, 10, none⟩ y10 k hk).trans ((Below.heap_setCell _ ⟨R, 9, none⟩ y9 k hk).trans ((Below.heap_setCell _ ⟨R, 8, none⟩ y8 k hk).trans ((Below.heap_setCell _ ⟨R, 7, none⟩ y7 k hk).trans ((Below.heap_setCell _ ⟨R, 6, none⟩ y6 k hk).trans ((Below.heap_setCell _ ⟨R, 5, none⟩ y5 k hk).trans ((Below.heap_setCell _ ⟨R, 4, none⟩ y4 k hk).trans ((Below.heap_setCell _ ⟨R, 3, none⟩ y3 k hk).trans ((Below.heap_setCell _ ⟨R, 2, none⟩ y2 k hk).trans ((Below.heap_setCell _ ⟨R, 1, none⟩ y1 k hk).trans (Below.heap_setCell w ⟨R, 0, none⟩ y0 k hk))))))))))))) (by simp [World.setCell]), fun g t' cs h hne => ((((((((((((h.far (p := ⟨R, 0, none⟩) hne y0).far (p := ⟨R, 1, none⟩) hne y1).far (p := ⟨R, 2, none⟩) hne y2).far (p := ⟨R, 3, none⟩) hne y3).far (p := ⟨R, 4, none⟩) hne y4).far (p := ⟨R, 5, none⟩) hne y5).far (p := ⟨R, 6, none⟩) hne y6).far (p := ⟨R, 7, none⟩) hne y7).far (p := ⟨R, 8, none⟩) hne y8).far (p := ⟨R, 9, none⟩) hne y9).far (p := ⟨R, 10, none⟩) hne y10).far (p := ⟨R, 11, none⟩) hne y11), fun B w0 hBR hB => ((((((((((((hB.setCell (p := ⟨R, 0, none⟩) hBR y0).setCell (p := ⟨R, 1, none⟩) hBR y1).setCell (p := ⟨R, 2, none⟩) hBR y2).setCell (p := ⟨R, 3, none⟩) hBR y3).setCell (p := ⟨R, 4, none⟩) hBR y4).setCell (p := ⟨R, 5, none⟩) hBR y5).setCell (p := ⟨R, 6, none⟩) hBR y6).setCell (p := ⟨R, 7, none⟩) hBR y7).setCell (p := ⟨R, 8, none⟩) hBR y8).setCell (p := ⟨R, 9, none⟩) hBR y9).setCell (p := ⟨R, 10, none⟩) hBR y10).setCell (p := ⟨R, 11, none⟩) hBR y11)⟩
set_option maxRecDepth 100000 in
set_option maxHeartbeats 8000000 in
theorem TrackIn_u1 (lr b1 b2 eps wd : Int) (apart : Bool) (f p0 p1 t : Int) (g0 g1 g2 g3 : Value) (s1 s2 s3 s4 : Bool) (A1 D1 A2 D2 A3 D3 A4 D4 : Option Addr) (C1 E1 C2 E2 C3 E3 C4 E4 : Nat) (l1 m1 l2 m2 l3 m3 l4 m4 : List Nat) (w : World) (_i1 : In64 lr) (_i2 : In64 b1) (_i3 : In64 b2) (_i4 : In64 eps) (p1' : IsL w (.slice A1 l1.length C1) l1) (t1' : IsL w (.slice D1 m1.length E1) m1) (p2' : IsL w (.slice A2 l2.length C2) l2) (t2' : IsL w (.slice D2 m2.length E2) m2) (p3' : IsL w (.slice A3 l3.length C3) l3) (t3' : IsL w (.slice D3 m3.length E3) m3) (p4' : IsL w (.slice A4 l4.length C4) l4) (t4' : IsL w (.slice D4 m4.length E4) m4) (hf1 : fewI s1 l1 m1 s2 l2 m2 2 = false) :
   Calls Tryz.prog 6 #[.agg #[.int .i64 lr, .int .i64 b1, .int .i64 b2, .int .i64 eps, .int .i64 wd, .bool apart, .int .i64 f, .int .i64 p0, .int .i64 p1, g0, g1, g2, g3], .agg #[.bool s1, .slice A1 l1.length C1, .slice D1 m1.length E1, .bool s2, .slice A2 l2.length C2, .slice D2 m2.length E2, .bool s3, .slice A3 l3.length C3, .slice D3 m3.length E3, .bool s4, .slice A4 l4.length C4, .slice D4 m4.length E4], .int .i64 t] w fun e w' => e = .returned (.bool true) ∧ Below w.heap.size w w' := by
 have hA := fun w => alive20_any w
 have hF1 := fun w h1 h2 h3 h4 => rsfew_any s1 s2 A1 D1 A2 D2 C1 E1 C2 E2 l1 m1 l2 m2 w h1 h2 h3 h4 2 (by omega)
 have hF2 := fun w h1 h2 h3 h4 => rsfew_any s3 s4 A3 D3 A4 D4 C3 E3 C4 E4 l3 m3 l4 m4 w h1 h2 h3 h4 2 (by omega)
 rw [hf1] at hF1
 clear _i1 _i2 _i3 _i4
 obtain ⟨g, hg⟩ : ∃ g, g = w.heap.size := ⟨_, rfl⟩
 obtain ⟨Y0, eY0, hI, bY0⟩ := box1 w 66 #[.int .i64 lr, .int .i64 b1, .int .i64 b2, .int .i64 eps, .int .i64 wd, .bool apart, .int .i64 f, .int .i64 p0, .int .i64 p1, g0, g1, g2, g3]
 have zY0 : Y0.heap.size = g + 1 := by rw [eY0, World.size_alloc, ← hg]
 rw [← hg] at hI
 replace p1' := p1'.below bY0
 replace t1' := t1'.below bY0
 replace p2' := p2'.below bY0
 replace t2' := t2'.below bY0
 replace p3' := p3'.below bY0
 replace t3' := t3'.below bY0
 replace p4' := p4'.below bY0
 replace t4' := t4'.below bY0
 have hB := bY0
 obtain ⟨Y1, eY1, h7, bY1⟩ := box1 Y0 67 #[.bool s1, .slice A1 l1.length C1, .slice D1 m1.length E1, .bool s2, .slice A2 l2.length C2, .slice D2 m2.length E2, .bool s3, .slice A3 l3.length C3, .slice D3 m3.length E3, .bool s4, .slice A4 l4.length C4, .slice D4 m4.length E4]
 have zY1 : Y1.heap.size = g + 1 + 1 := by rw [eY1, World.size_alloc, zY0]
 rw [zY0] at h7
 replace hI := hI.below bY1 hI.lt
 replace p1' := p1'.below bY1
 replace t1' := t1'.below bY1
 replace p2' := p2'.below bY1
 replace t2' := t2'.below bY1
 replace p3' := p3'.below bY1
 replace t3' := t3'.below bY1
 replace p4' := p4'.below bY1
 replace t4' := t4'.below bY1
 replace hB := hB.trans (bY1.mono hB.size)
 have hgw : w.heap.size ≤ g := by omega
 have EY := Lib.hid (And.intro hg (And.intro eY0 eY1))
 clear hg eY0 zY0 eY1 zY1
 obtain ⟨c0, c1, c2, c3, c4, c5, c6, c7, c8, c9, c10, c11, c12⟩ := hI.q13
 obtain ⟨c13, c14, c15, c16, c17, c18, c19, c20, c21, c22, c23, c24⟩ := h7.q12
 go_enter Tryz.func6, Tryz.ntmps6
 go_wp2_with fail
 rw [← EY.out.2.1, ← EY.out.2.2, ← EY.out.1]
 refine (hF1 _ p1' t1' p2' t2').mono ?_
 rintro e w2 ⟨rfl, b2⟩
 replace p1' := p1'.below b2
 replace t1' := t1'.below b2
 replace p2' := p2'.below b2
 replace t2' := t2'.below b2
 replace p3' := p3'.below b2
 replace t3' := t3'.below b2
 replace p4' := p4'.below b2
 replace t4' := t4'.below b2
 replace hI := hI.below b2 hI.lt
 replace h7 := h7.below b2 h7.lt
 replace hB := hB.trans (b2.mono hB.size)
 clear c0 c1 c2 c3 c4 c5 c6 c7 c8 c9 c10 c11 c12 c13 c14 c15 c16 c17 c18 c19 c20 c21 c22 c23 c24
 obtain ⟨c25, c26, c27, c28, c29, c30, c31, c32, c33, c34, c35, c36, c37⟩ := hI.q13
 obtain ⟨c38, c39, c40, c41, c42, c43, c44, c45, c46, c47, c48, c49⟩ := h7.q12
 go_wp2_with fail
 refine (hA _).mono ?_
 rintro e w4 ⟨rfl, b4⟩
 replace p1' := p1'.below b4
 replace t1' := t1'.below b4
 replace p2' := p2'.below b4
 replace t2' := t2'.below b4
 replace p3' := p3'.below b4
 replace t3' := t3'.below b4
 replace p4' := p4'.below b4
 replace t4' := t4'.below b4
 replace hI := hI.below b4 hI.lt
 replace h7 := h7.below b4 h7.lt
 replace hB := hB.trans (b4.mono hB.size)
 clear c25 c26 c27 c28 c29 c30 c31 c32 c33 c34 c35 c36 c37 c38 c39 c40 c41 c42 c43 c44 c45 c46 c47 c48 c49
 obtain ⟨c50, c51, c52, c53, c54, c55, c56, c57, c58, c59, c60, c61, c62⟩ := hI.q13
 obtain ⟨c63, c64, c65, c66, c67, c68, c69, c70, c71, c72, c73, c74⟩ := h7.q12
 go_wp2
 go_ret
 exact ⟨rfl, hB⟩
set_option maxRecDepth 100000 in
set_option maxHeartbeats 8000000 in
theorem TrackIn_u2 (lr b1 b2 eps wd : Int) (apart : Bool) (f p0 p1 t : Int) (g0 g1 g2 g3 : Value) (s1 s2 s3 s4 : Bool) (A1 D1 A2 D2 A3 D3 A4 D4 : Option Addr) (C1 E1 C2 E2 C3 E3 C4 E4 : Nat) (l1 m1 l2 m2 l3 m3 l4 m4 : List Nat) (w : World) (_i1 : In64 lr) (_i2 : In64 b1) (_i3 : In64 b2) (_i4 : In64 eps) (p1' : IsL w (.slice A1 l1.length C1) l1) (t1' : IsL w (.slice D1 m1.length E1) m1) (p2' : IsL w (.slice A2 l2.length C2) l2) (t2' : IsL w (.slice D2 m2.length E2) m2) (p3' : IsL w (.slice A3 l3.length C3) l3) (t3' : IsL w (.slice D3 m3.length E3) m3) (p4' : IsL w (.slice A4 l4.length C4) l4) (t4' : IsL w (.slice D4 m4.length E4) m4) (hf1 : fewI s1 l1 m1 s2 l2 m2 2 = true) (hf2 : fewI s3 l3 m3 s4 l4 m4 2 = false) :
   Calls Tryz.prog 6 #[.agg #[.int .i64 lr, .int .i64 b1, .int .i64 b2, .int .i64 eps, .int .i64 wd, .bool apart, .int .i64 f, .int .i64 p0, .int .i64 p1, g0, g1, g2, g3], .agg #[.bool s1, .slice A1 l1.length C1, .slice D1 m1.length E1, .bool s2, .slice A2 l2.length C2, .slice D2 m2.length E2, .bool s3, .slice A3 l3.length C3, .slice D3 m3.length E3, .bool s4, .slice A4 l4.length C4, .slice D4 m4.length E4], .int .i64 t] w fun e w' => e = .returned (.bool true) ∧ Below w.heap.size w w' := by
 have hA := fun w => alive20_any w
 have hF1 := fun w h1 h2 h3 h4 => rsfew_any s1 s2 A1 D1 A2 D2 C1 E1 C2 E2 l1 m1 l2 m2 w h1 h2 h3 h4 2 (by omega)
 have hF2 := fun w h1 h2 h3 h4 => rsfew_any s3 s4 A3 D3 A4 D4 C3 E3 C4 E4 l3 m3 l4 m4 w h1 h2 h3 h4 2 (by omega)
 rw [hf1] at hF1
 rw [hf2] at hF2
 clear _i1 _i2 _i3 _i4
 obtain ⟨g, hg⟩ : ∃ g, g = w.heap.size := ⟨_, rfl⟩
 obtain ⟨Y0, eY0, hI, bY0⟩ := box1 w 66 #[.int .i64 lr, .int .i64 b1, .int .i64 b2, .int .i64 eps, .int .i64 wd, .bool apart, .int .i64 f, .int .i64 p0, .int .i64 p1, g0, g1, g2, g3]
 have zY0 : Y0.heap.size = g + 1 := by rw [eY0, World.size_alloc, ← hg]
 rw [← hg] at hI
 replace p1' := p1'.below bY0
 replace t1' := t1'.below bY0
 replace p2' := p2'.below bY0
 replace t2' := t2'.below bY0
 replace p3' := p3'.below bY0
 replace t3' := t3'.below bY0
 replace p4' := p4'.below bY0
 replace t4' := t4'.below bY0
 have hB := bY0
 obtain ⟨Y1, eY1, h7, bY1⟩ := box1 Y0 67 #[.bool s1, .slice A1 l1.length C1, .slice D1 m1.length E1, .bool s2, .slice A2 l2.length C2, .slice D2 m2.length E2, .bool s3, .slice A3 l3.length C3, .slice D3 m3.length E3, .bool s4, .slice A4 l4.length C4, .slice D4 m4.length E4]
 have zY1 : Y1.heap.size = g + 1 + 1 := by rw [eY1, World.size_alloc, zY0]
 rw [zY0] at h7
 replace hI := hI.below bY1 hI.lt
 replace p1' := p1'.below bY1
 replace t1' := t1'.below bY1
 replace p2' := p2'.below bY1
 replace t2' := t2'.below bY1
 replace p3' := p3'.below bY1
 replace t3' := t3'.below bY1
 replace p4' := p4'.below bY1
 replace t4' := t4'.below bY1
 replace hB := hB.trans (bY1.mono hB.size)
 have hgw : w.heap.size ≤ g := by omega
 have EY := Lib.hid (And.intro hg (And.intro eY0 eY1))
 clear hg eY0 zY0 eY1 zY1
 obtain ⟨c0, c1, c2, c3, c4, c5, c6, c7, c8, c9, c10, c11, c12⟩ := hI.q13
 obtain ⟨c13, c14, c15, c16, c17, c18, c19, c20, c21, c22, c23, c24⟩ := h7.q12
 go_enter Tryz.func6, Tryz.ntmps6
 go_wp2_with fail
 rw [← EY.out.2.1, ← EY.out.2.2, ← EY.out.1]
 refine (hF1 _ p1' t1' p2' t2').mono ?_
 rintro e w2 ⟨rfl, b2⟩
 replace p1' := p1'.below b2
 replace t1' := t1'.below b2
 replace p2' := p2'.below b2
 replace t2' := t2'.below b2
 replace p3' := p3'.below b2
 replace t3' := t3'.below b2
 replace p4' := p4'.below b2
 replace t4' := t4'.below b2
 replace hI := hI.below b2 hI.lt
 replace h7 := h7.below b2 h7.lt
 replace hB := hB.trans (b2.mono hB.size)
 clear c0 c1 c2 c3 c4 c5 c6 c7 c8 c9 c10 c11 c12 c13 c14 c15 c16 c17 c18 c19 c20 c21 c22 c23 c24
 obtain ⟨c25, c26, c27, c28, c29, c30, c31, c32, c33, c34, c35, c36, c37⟩ := hI.q13
 obtain ⟨c38, c39, c40, c41, c42, c43, c44, c45, c46, c47, c48, c49⟩ := h7.q12
 go_wp2_with fail
 refine (hF2 _ p3' t3' p4' t4').mono ?_
 rintro e w4 ⟨rfl, b4⟩
 replace p1' := p1'.below b4
 replace t1' := t1'.below b4
 replace p2' := p2'.below b4
 replace t2' := t2'.below b4
 replace p3' := p3'.below b4
 replace t3' := t3'.below b4
 replace p4' := p4'.below b4
 replace t4' := t4'.below b4
 replace hI := hI.below b4 hI.lt
 replace h7 := h7.below b4 h7.lt
 replace hB := hB.trans (b4.mono hB.size)
 clear c25 c26 c27 c28 c29 c30 c31 c32 c33 c34 c35 c36 c37 c38 c39 c40 c41 c42 c43 c44 c45 c46 c47 c48 c49
 obtain ⟨c50, c51, c52, c53, c54, c55, c56, c57, c58, c59, c60, c61, c62⟩ := hI.q13
 obtain ⟨c63, c64, c65, c66, c67, c68, c69, c70, c71, c72, c73, c74⟩ := h7.q12
 go_wp2_with fail
 refine (hA _).mono ?_
 rintro e w6 ⟨rfl, b6⟩
 replace p1' := p1'.below b6
 replace t1' := t1'.below b6
 replace p2' := p2'.below b6
 replace t2' := t2'.below b6
 replace p3' := p3'.below b6
 replace t3' := t3'.below b6
 replace p4' := p4'.below b6
 replace t4' := t4'.below b6
 replace hI := hI.below b6 hI.lt
 replace h7 := h7.below b6 h7.lt
 replace hB := hB.trans (b6.mono hB.size)
 clear c50 c51 c52 c53 c54 c55 c56 c57 c58 c59 c60 c61 c62 c63 c64 c65 c66 c67 c68 c69 c70 c71 c72 c73 c74
 obtain ⟨c75, c76, c77, c78, c79, c80, c81, c82, c83, c84, c85, c86, c87⟩ := hI.q13
 obtain ⟨c88, c89, c90, c91, c92, c93, c94, c95, c96, c97, c98, c99⟩ := h7.q12
 go_wp2
 go_ret
 exact ⟨rfl, hB⟩
set_option maxRecDepth 100000 in
set_option maxHeartbeats 8000000 in
theorem rsin_S (u v : Value) (a b c d : Rat) (w : World) (h : IsS w u a b) (h' : IsS w v c d) (sa : BQ a 10000) (sb : BQ b 10000) (sc : BQ c 10000) (sd : BQ d 10000) (k1 : c ≤ a) (k2 : a ≤ d) (k3 : c ≤ b) (k4 : b ≤ d) :
   Calls Tryz.prog 35 #[u, v] w fun e w' => e = .returned (.bool true) ∧ Below w.heap.size w w' := by
 obtain ⟨s1, A1, L1, C1, D1, M1, E1, s2, A2, L2, C2, D2, M2, E2, rfl, q1, q2⟩ := h.opn
 obtain ⟨s3, A3, L3, C3, D3, M3, E3, s4, A4, L4, C4, D4, M4, E4, rfl, q3, q4⟩ := h'.opn
 have hH1 := fun v u w h1 h2 => rshas_any v u c d a w h1 h2 sc sd sa
 have hH2 := fun v u w h1 h2 => rshas_any v u c d b w h1 h2 sc sd sb
 rw [← cmpQ_le_iff] at k1 k2 k3 k4
 rw [decide_eq_true k1, decide_eq_true k2] at hH1
 rw [decide_eq_true k3, decide_eq_true k4] at hH2
 rw [Bool.true_and] at hH1 hH2
 clear k1 k2 k3 k4 sa sb sc sd h h'
 obtain ⟨g, hg⟩ : ∃ g, g = w.heap.size := ⟨_, rfl⟩
 obtain ⟨Y0, eY0, hX, bY0⟩ := box1 w 46 #[.bool s1, .slice A1 L1 C1, .slice D1 M1 E1, .bool s2, .slice A2 L2 C2, .slice D2 M2 E2]
 have zY0 : Y0.heap.size = g + 1 := by rw [eY0, World.size_alloc, ← hg]
 rw [← hg] at hX
 replace q1 := q1.below bY0
 replace q2 := q2.below bY0
 replace q3 := q3.below bY0
 replace q4 := q4.below bY0
 have hB := bY0
 obtain ⟨Y1, eY1, hY, bY1⟩ := box1 Y0 46 #[.bool s3, .slice A3 L3 C3, .slice D3 M3 E3, .bool s4, .slice A4 L4 C4, .slice D4 M4 E4]
 have zY1 : Y1.heap.size = g + 1 + 1 := by rw [eY1, World.size_alloc, zY0]
 rw [zY0] at hY
 replace hX := hX.below bY1 hX.lt
 replace q1 := q1.below bY1
 replace q2 := q2.below bY1
 replace q3 := q3.below bY1
 replace q4 := q4.below bY1
 replace hB := hB.trans (bY1.mono hB.size)
 have hgw : w.heap.size ≤ g := by omega
 have EY := Lib.hid (And.intro hg (And.intro eY0 eY1))
 clear hg eY0 zY0 eY1 zY1
 obtain ⟨c0, c1, c2, c3, c4, c5⟩ := hX.q6
 obtain ⟨c6, c7, c8, c9, c10, c11⟩ := hY.q6
 go_enter Tryz.func35, Tryz.ntmps35
 go_wp2_with fail
 rw [← EY.out.2.1, ← EY.out.2.2, ← EY.out.1]
 refine (hH1 _ _ _ ⟨_, _, _, _, _, _, rfl, q3, q4⟩ q1).mono ?_
 rintro e w2 ⟨rfl, b2⟩
 replace q1 := q1.below b2
 replace q2 := q2.below b2
 replace q3 := q3.below b2
 replace q4 := q4.below b2
 replace hX := hX.below b2 hX.lt
 replace hY := hY.below b2 hY.lt
 replace hB := hB.trans (b2.mono hB.size)
 clear c0 c1 c2 c3 c4 c5 c6 c7 c8 c9 c10 c11
 obtain ⟨c12, c13, c14, c15, c16, c17⟩ := hX.q6
 obtain ⟨c18, c19, c20, c21, c22, c23⟩ := hY.q6
 go_wp2_with fail
 refine (hH2 _ _ _ ⟨_, _, _, _, _, _, rfl, q3, q4⟩ q2).mono ?_
 rintro e w4 ⟨rfl, b4⟩
 replace q1 := q1.below b4
 replace q2 := q2.below b4
 replace q3 := q3.below b4
 replace q4 := q4.below b4
 replace hX := hX.below b4 hX.lt
 replace hY := hY.below b4 hY.lt
 replace hB := hB.trans (b4.mono hB.size)
 clear c12 c13 c14 c15 c16 c17 c18 c19 c20 c21 c22 c23
 obtain ⟨c24, c25, c26, c27, c28, c29⟩ := hX.q6
 obtain ⟨c30, c31, c32, c33, c34, c35⟩ := hY.q6
 go_wp2
 go_ret
 exact ⟨rfl, hB⟩
theorem upd_sizes {l1 l2 e r f0 f1 s0 s1 : Rat} (h0 : BQ f0 10) (h1 : BQ f1 10) (h2 : BQ s0 10) (h3 : BQ s1 10) (hl1 : BQ l1 130) (hl2 : BQ l2 130) (he : BQ e 1) (hr : BQ r 1) : BQ (updLo l1 l2 e r f0 f1 s0 s1) 1000 ∧ BQ (updHi l1 l2 e r f0 f1 s0 s1) 1000 := by
 obtain ⟨sx1, sx2⟩ := sz_div h0 h1 hl1 hl1
 obtain ⟨sy1, sy2⟩ := sz_div h2 h3 hl2 hl2
 have sg1 := sz_sqLo sy1
 have sg2 := sz_sqHi sy2
 have sd1 := (sg1.add he).more (m := 400) (by omega)
 have sd2 := (sg2.add he).more (m := 400) (by omega)
 obtain ⟨su1, su2⟩ := sz_div sx1 sx2 sd1 sd2
 obtain ⟨sp1, sp2⟩ := sz_mul hr hr su1 su2
 have z : Sz (2 ^ 60) 1000 := (Sz.two_pow 60).more (by omega)
 have k1 := sz_flr (k := 60) sp1
 have k2 := sz_cel (k := 60) sp2
 unfold updLo updHi
 generalize 2 ^ 60 = P at *
 exact ⟨BQ.mk (k1.more (by omega)) z (by omega), BQ.mk (k2.more (by omega)) z (by omega)⟩
theorem ResS.filled {bad : Bool} {a b : Rat} {w w' : World} {v : Value} (h : ResS bad a b w v) (k : ∀ v l, IsL w v l → IsL w' v l) : ResS bad a b w' v := by
 unfold ResS at *
 split
 · rename_i e; rw [if_pos e] at h; exact h
 · rename_i e; rw [if_neg e] at h
   obtain ⟨s, p, q, t, x, y, e1, h1, h2⟩ := h
   exact ⟨s, p, q, t, x, y, e1, h1.filled k, h2.filled k⟩
set_option maxRecDepth 100000 in
set_option maxHeartbeats 8000000 in
theorem TrackIn_ok (lr b1 b2 eps wd : Int) (apart : Bool) (f p0 p1 t : Int) (g0 g1 g2 g3 : Value) (s1 s2 s3 s4 : Bool) (A1 D1 A2 D2 A3 D3 A4 D4 : Option Addr) (C1 E1 C2 E2 C3 E3 C4 E4 : Nat) (l1 m1 l2 m2 l3 m3 l4 m4 : List Nat) (w : World) (_i1 : In64 lr) (_i2 : In64 b1) (_i3 : In64 b2) (_i4 : In64 eps) (p1' : IsL w (.slice A1 l1.length C1) l1) (t1' : IsL w (.slice D1 m1.length E1) m1) (p2' : IsL w (.slice A2 l2.length C2) l2) (t2' : IsL w (.slice D2 m2.length E2) m2) (p3' : IsL w (.slice A3 l3.length C3) l3) (t3' : IsL w (.slice D3 m3.length E3) m3) (p4' : IsL w (.slice A4 l4.length C4) l4) (t4' : IsL w (.slice D4 m4.length E4) m4) (hf1 : fewI s1 l1 m1 s2 l2 m2 2 = true) (hf2 : fewI s3 l3 m3 s4 l4 m4 2 = true) (y1 y2 y3 y4 lo hi lp hp : Rat) (bad : Bool) (q1 : IsQ w (.agg #[.bool s1, .slice A1 l1.length C1, .slice D1 m1.length E1]) y1) (q2 : IsQ w (.agg #[.bool s2, .slice A2 l2.length C2, .slice D2 m2.length E2]) y2) (q3 : IsQ w (.agg #[.bool s3, .slice A3 l3.length C3, .slice D3 m3.length E3]) y3) (q4 : IsQ w (.agg #[.bool s4, .slice A4 l4.length C4, .slice D4 m4.length E4]) y4)
   (hU : ∀ w, IsS w (.agg #[.bool s1, .slice A1 l1.length C1, .slice D1 m1.length E1, .bool s2, .slice A2 l2.length C2, .slice D2 m2.length E2]) y1 y2 → IsS w (.agg #[.bool s3, .slice A3 l3.length C3, .slice D3 m3.length E3, .bool s4, .slice A4 l4.length C4, .slice D4 m4.length E4]) y3 y4 → Calls Tryz.prog 32 #[.agg #[.int .i64 lr, .int .i64 b1, .int .i64 b2, .int .i64 eps, .int .i64 wd, .bool apart], .int .i64 f, .int .i64 t, .agg #[.bool s1, .slice A1 l1.length C1, .slice D1 m1.length E1, .bool s2, .slice A2 l2.length C2, .slice D2 m2.length E2, .bool s3, .slice A3 l3.length C3, .slice D3 m3.length E3, .bool s4, .slice A4 l4.length C4, .slice D4 m4.length E4]] w fun e w' => ∃ v', e = .returned (.tuple #[v', .int .i64 (errOf bad)]) ∧ ResS bad lo hi w' v' ∧ Below w.heap.size w w')
   (hV : ∀ (w : World) (s5 s6 s7 s8 : Bool) (A5 D5 A6 D6 A7 D7 A8 D8 : Option Addr) (L5 C5 M5 E5 L6 C6 M6 E6 L7 C7 M7 E7 L8 C8 M8 E8 : Nat), IsS w (.agg #[.bool s5, .slice A5 L5 C5, .slice D5 M5 E5, .bool s6, .slice A6 L6 C6, .slice D6 M6 E6]) y2 y2 → IsS w (.agg #[.bool s7, .slice A7 L7 C7, .slice D7 M7 E7, .bool s8, .slice A8 L8 C8, .slice D8 M8 E8]) y4 y4 → Calls Tryz.prog 32 #[.agg #[.int .i64 lr, .int .i64 b1, .int .i64 b2, .int .i64 eps, .int .i64 wd, .bool apart], .int .i64 f, .int .i64 t, .agg #[.bool s5, .slice A5 L5 C5, .slice D5 M5 E5, .bool s6, .slice A6 L6 C6, .slice D6 M6 E6, .bool s7, .slice A7 L7 C7, .slice D7 M7 E7, .bool s8, .slice A8 L8 C8, .slice D8 M8 E8]] w fun e w' => ∃ v', e = .returned (.tuple #[v', .int .i64 (errOf bad)]) ∧ ResS bad lp hp w' v' ∧ Below w.heap.size w w')
   (hIn : bad = false → ∀ u v w, IsS w u lp hp → IsS w v lo hi → Calls Tryz.prog 35 #[u, v] w fun e w' => e = .returned (.bool true) ∧ Below w.heap.size w w')
   (hR1 : bad = false → ∀ v w, IsS w v lo hi → Calls Tryz.prog 36 #[v] w fun e w' => e = .returned (.bool true) ∧ Below w.heap.size w w')
   (hR2 : bad = false → ∀ v w, IsS w v lp hp → Calls Tryz.prog 36 #[v] w fun e w' => e = .returned (.bool true) ∧ Below w.heap.size w w') :
   Calls Tryz.prog 6 #[.agg #[.int .i64 lr, .int .i64 b1, .int .i64 b2, .int .i64 eps, .int .i64 wd, .bool apart, .int .i64 f, .int .i64 p0, .int .i64 p1, g0, g1, g2, g3], .agg #[.bool s1, .slice A1 l1.length C1, .slice D1 m1.length E1, .bool s2, .slice A2 l2.length C2, .slice D2 m2.length E2, .bool s3, .slice A3 l3.length C3, .slice D3 m3.length E3, .bool s4, .slice A4 l4.length C4, .slice D4 m4.length E4], .int .i64 t] w fun e w' => e = .returned (.bool true) ∧ Below w.heap.size w w' := by
 have hA := fun w => alive20_any w
 have hF1 := fun w h1 h2 h3 h4 => rsfew_any s1 s2 A1 D1 A2 D2 C1 E1 C2 E2 l1 m1 l2 m2 w h1 h2 h3 h4 2 (by omega)
 have hF2 := fun w h1 h2 h3 h4 => rsfew_any s3 s4 A3 D3 A4 D4 C3 E3 C4 E4 l3 m3 l4 m4 w h1 h2 h3 h4 2 (by omega)
 rw [hf1] at hF1
 rw [hf2] at hF2
 have hO := fun v w y h => rivof_any v y w h
 obtain ⟨er, her⟩ : ∃ er, er = errOf bad := ⟨_, rfl⟩
 rw [← her] at hU hV
 have HER := Lib.hid (show (bad = true → er = 1) ∧ (bad = false → er = 0) from ⟨fun h => by rw [her, h]; rfl, fun h => by rw [her, h]; rfl⟩)
 have hIn := Lib.hid hIn
 have hR1 := Lib.hid hR1
 have hR2 := Lib.hid hR2
 clear her hf1 hf2 _i1 _i2 _i3 _i4
 obtain ⟨g, hg⟩ : ∃ g, g = w.heap.size := ⟨_, rfl⟩
 obtain ⟨Y0, eY0, hI, bY0⟩ := box1 w 66 #[.int .i64 lr, .int .i64 b1, .int .i64 b2, .int .i64 eps, .int .i64 wd, .bool apart, .int .i64 f, .int .i64 p0, .int .i64 p1, g0, g1, g2, g3]
 have zY0 : Y0.heap.size = g + 1 := by rw [eY0, World.size_alloc, ← hg]
 rw [← hg] at hI
 replace p1' := p1'.below bY0
 replace t1' := t1'.below bY0
 replace p2' := p2'.below bY0
 replace t2' := t2'.below bY0
 replace p3' := p3'.below bY0
 replace t3' := t3'.below bY0
 replace p4' := p4'.below bY0
 replace t4' := t4'.below bY0
 replace q1 := q1.below bY0
 replace q2 := q2.below bY0
 replace q3 := q3.below bY0
 replace q4 := q4.below bY0
 have hB := bY0
 obtain ⟨Y1, eY1, h7, bY1⟩ := box1 Y0 67 #[.bool s1, .slice A1 l1.length C1, .slice D1 m1.length E1, .bool s2, .slice A2 l2.length C2, .slice D2 m2.length E2, .bool s3, .slice A3 l3.length C3, .slice D3 m3.length E3, .bool s4, .slice A4 l4.length C4, .slice D4 m4.length E4]
 have zY1 : Y1.heap.size = g + 1 + 1 := by rw [eY1, World.size_alloc, zY0]
 rw [zY0] at h7
 replace hI := hI.below bY1 hI.lt
 replace p1' := p1'.below bY1
 replace t1' := t1'.below bY1
 replace p2' := p2'.below bY1
 replace t2' := t2'.below bY1
 replace p3' := p3'.below bY1
 replace t3' := t3'.below bY1
 replace p4' := p4'.below bY1
 replace t4' := t4'.below bY1
 replace q1 := q1.below bY1
 replace q2 := q2.below bY1
 replace q3 := q3.below bY1
 replace q4 := q4.below bY1
 replace hB := hB.trans (bY1.mono hB.size)
 have hgw : w.heap.size ≤ g := by omega
 have EY := Lib.hid (And.intro hg (And.intro eY0 eY1))
 clear hg eY0 zY0 eY1 zY1
 obtain ⟨c0, c1, c2, c3, c4, c5, c6, c7, c8, c9, c10, c11, c12⟩ := hI.q13
 obtain ⟨c13, c14, c15, c16, c17, c18, c19, c20, c21, c22, c23, c24⟩ := h7.q12
 go_enter Tryz.func6, Tryz.ntmps6
 go_wp2_with fail
 rw [← EY.out.2.1, ← EY.out.2.2, ← EY.out.1]
 refine (hF1 _ p1' t1' p2' t2').mono ?_
 rintro e w22 ⟨rfl, b22⟩
 replace p1' := p1'.below b22
 replace t1' := t1'.below b22
 replace p2' := p2'.below b22
 replace t2' := t2'.below b22
 replace p3' := p3'.below b22
 replace t3' := t3'.below b22
 replace p4' := p4'.below b22
 replace t4' := t4'.below b22
 replace q1 := q1.below b22
 replace q2 := q2.below b22
 replace q3 := q3.below b22
 replace q4 := q4.below b22
 replace hI := hI.below b22 hI.lt
 replace h7 := h7.below b22 h7.lt
 replace hB := hB.trans (b22.mono hB.size)
 clear c0 c1 c2 c3 c4 c5 c6 c7 c8 c9 c10 c11 c12 c13 c14 c15 c16 c17 c18 c19 c20 c21 c22 c23 c24
 obtain ⟨c25, c26, c27, c28, c29, c30, c31, c32, c33, c34, c35, c36, c37⟩ := hI.q13
 obtain ⟨c38, c39, c40, c41, c42, c43, c44, c45, c46, c47, c48, c49⟩ := h7.q12
 go_wp2_with fail
 refine (hF2 _ p3' t3' p4' t4').mono ?_
 rintro e w24 ⟨rfl, b24⟩
 replace p1' := p1'.below b24
 replace t1' := t1'.below b24
 replace p2' := p2'.below b24
 replace t2' := t2'.below b24
 replace p3' := p3'.below b24
 replace t3' := t3'.below b24
 replace p4' := p4'.below b24
 replace t4' := t4'.below b24
 replace q1 := q1.below b24
 replace q2 := q2.below b24
 replace q3 := q3.below b24
 replace q4 := q4.below b24
 replace hI := hI.below b24 hI.lt
 replace h7 := h7.below b24 h7.lt
 replace hB := hB.trans (b24.mono hB.size)
 clear c25 c26 c27 c28 c29 c30 c31 c32 c33 c34 c35 c36 c37 c38 c39 c40 c41 c42 c43 c44 c45 c46 c47 c48 c49
 obtain ⟨c50, c51, c52, c53, c54, c55, c56, c57, c58, c59, c60, c61, c62⟩ := hI.q13
 obtain ⟨c63, c64, c65, c66, c67, c68, c69, c70, c71, c72, c73, c74⟩ := h7.q12
 go_wp2_with fail
 refine (hU _ ⟨_, _, _, _, _, _, rfl, q1, q2⟩ ⟨_, _, _, _, _, _, rfl, q3, q4⟩).mono ?_
 rintro e w26 ⟨v5, rfl, m5, b26⟩
 replace q1 := q1.below b26
 replace q2 := q2.below b26
 replace q3 := q3.below b26
 replace q4 := q4.below b26
 replace hI := hI.below b26 hI.lt
 replace h7 := h7.below b26 h7.lt
 replace hB := hB.trans (b26.mono hB.size)
 clear c50 c51 c52 c53 c54 c55 c56 c57 c58 c59 c60 c61 c62 c63 c64 c65 c66 c67 c68 c69 c70 c71 c72 c73 c74
 obtain ⟨c75, c76, c77, c78, c79, c80, c81, c82, c83, c84, c85, c86, c87⟩ := hI.q13
 obtain ⟨c88, c89, c90, c91, c92, c93, c94, c95, c96, c97, c98, c99⟩ := h7.q12
 obtain ⟨s5, A5, L5, C5, D5, M5, E5, s6, A6, L6, C6, D6, M6, E6, rfl, m5⟩ := m5.opn
 obtain ⟨V28, eV, h5, bV28⟩ := box1 w26 46 #[.bool s5, .slice A5 L5 C5, .slice D5 M5 E5, .bool s6, .slice A6 L6 C6, .slice D6 M6 E6]
 obtain ⟨X28, eX⟩ : ∃ X, X = w26.heap.size := ⟨_, rfl⟩
 rw [← eX] at h5
 have lX28 : w.heap.size ≤ X28 := by rw [eX]; exact hB.size
 have dX28_hI : g ≠ X28 := by have := hI.lt; omega
 have dX28_h7 : g + 1 ≠ X28 := by have := h7.lt; omega
 have EV28 := Lib.hid (And.intro eV eX)
 clear eV eX
 go_upto_region 4 with fail
 rw [← EV28.out.1, ← EV28.out.2]
 replace q1 := q1.below bV28
 replace q2 := q2.below bV28
 replace q3 := q3.below bV28
 replace q4 := q4.below bV28
 replace hI := hI.below bV28 hI.lt
 replace h7 := h7.below bV28 h7.lt
 replace m5 := m5.below bV28
 replace hB := hB.trans (bV28.mono hB.size)
 clear c75 c76 c77 c78 c79 c80 c81 c82 c83 c84 c85 c86 c87 c88 c89 c90 c91 c92 c93 c94 c95 c96 c97 c98 c99
 obtain ⟨c100, c101, c102, c103, c104, c105, c106, c107, c108, c109, c110, c111, c112⟩ := hI.q13
 obtain ⟨c113, c114, c115, c116, c117, c118, c119, c120, c121, c122, c123, c124⟩ := h7.q12
 obtain ⟨c125, c126, c127, c128, c129, c130⟩ := h5.q6
 replace hB := hB.drew
 replace q2 := q2.below (bdrew _)
 replace q4 := q4.below (bdrew _)
 replace hI := hI.drew
 replace h7 := h7.drew
 replace m5 := m5.below (bdrew _)
 replace h5 := h5.drew
 clear c100 c101 c102 c103 c104 c105 c106 c107 c108 c109 c110 c111 c112 c113 c114 c115 c116 c117 c118 c119 c120 c121 c122 c123 c124 c125 c126 c127 c128 c129 c130
 go_cut [9] (fun s9 wx => ∃ XPA s37 A37 L37 C37 D37 M37 E37 s38 A38 L38 C38 D38 M38 E38 s39 A39 L39 C39 D39 M39 E39 s40 A40 L40 C40 D40 M40 E40, s9 = .pointer (some ⟨XPA, 0, none⟩) ∧ Blk wx g 66 #[.int .i64 lr, .int .i64 b1, .int .i64 b2, .int .i64 eps, .int .i64 wd, .bool apart, .int .i64 f, .int .i64 p0, .int .i64 p1, g0, g1, g2, g3] ∧ Blk wx (g + 1) 67 #[.bool s1, .slice A1 l1.length C1, .slice D1 m1.length E1, .bool s2, .slice A2 l2.length C2, .slice D2 m2.length E2, .bool s3, .slice A3 l3.length C3, .slice D3 m3.length E3, .bool s4, .slice A4 l4.length C4, .slice D4 m4.length E4] ∧ ResS bad lo hi wx (.agg #[.bool s5, .slice A5 L5 C5, .slice D5 M5 E5, .bool s6, .slice A6 L6 C6, .slice D6 M6 E6]) ∧ Blk wx X28 46 #[.bool s5, .slice A5 L5 C5, .slice D5 M5 E5, .bool s6, .slice A6 L6 C6, .slice D6 M6 E6] ∧ IsQ wx (.agg #[.bool s37, .slice A37 L37 C37, .slice D37 M37 E37]) y2 ∧ IsQ wx (.agg #[.bool s38, .slice A38 L38 C38, .slice D38 M38 E38]) y2 ∧ IsQ wx (.agg #[.bool s39, .slice A39 L39 C39, .slice D39 M39 E39]) y4 ∧ IsQ wx (.agg #[.bool s40, .slice A40 L40 C40, .slice D40 M40 E40]) y4 ∧ Blk wx XPA 67 #[.bool s37, .slice A37 L37 C37, .slice D37 M37 E37, .bool s38, .slice A38 L38 C38, .slice D38 M38 E38, .bool s39, .slice A39 L39 C39, .slice D39 M39 E39, .bool s40, .slice A40 L40 C40, .slice D40 M40 E40] ∧ Below w.heap.size w wx ∧ w.heap.size ≤ XPA ∧ g ≠ XPA ∧ g + 1 ≠ XPA ∧ X28 ≠ XPA)
 case first =>
   refine wp_region_noPanic ?_
   refine wp_region_held_drew (S := fun w' => w'.cell? ⟨g + 1, 0, none⟩ = some (.bool s1) ∧ w'.cell? ⟨g + 1, 1, none⟩ = some (.slice A1 l1.length C1) ∧ w'.cell? ⟨g + 1, 2, none⟩ = some (.slice D1 m1.length E1) ∧ w'.cell? ⟨g + 1, 3, none⟩ = some (.bool s2) ∧ w'.cell? ⟨g + 1, 4, none⟩ = some (.slice A2 l2.length C2) ∧ w'.cell? ⟨g + 1, 5, none⟩ = some (.slice D2 m2.length E2) ∧ w'.cell? ⟨g + 1, 6, none⟩ = some (.bool s3) ∧ w'.cell? ⟨g + 1, 7, none⟩ = some (.slice A3 l3.length C3) ∧ w'.cell? ⟨g + 1, 8, none⟩ = some (.slice D3 m3.length E3) ∧ w'.cell? ⟨g + 1, 9, none⟩ = some (.bool s4) ∧ w'.cell? ⟨g + 1, 10, none⟩ = some (.slice A4 l4.length C4) ∧ w'.cell? ⟨g + 1, 11, none⟩ = some (.slice D4 m4.length E4)) (by kernel_rfl) ?_ (fun hHeld => ?_)
   · exact ⟨h7.cell 0, h7.cell 1, h7.cell 2, h7.cell 3, h7.cell 4, h7.cell 5, h7.cell 6, h7.cell 7, h7.cell 8, h7.cell 9, h7.cell 10, h7.cell 11⟩
   obtain ⟨wd4_1, hwd⟩ : ∃ q, q = V28.drew := ⟨_, rfl⟩
   rw [← hwd] at hB q2 q4 hI h7 m5 h5 hHeld ⊢
   clear hwd
   refine tkH 0 rfl (v := ?v1) ?h1 ?r1
   case h1 => intro w hSw; (try dsimp only at hSw); go_simp; try (with_reducible rfl)
   refine tkH 1 rfl (v := ?v2) ?h2 ?r2
   case h2 => intro w hSw; (try dsimp only at hSw); go_simp; try (with_reducible rfl)
   refine tkH 2 rfl (v := ?v3) ?h3 ?r3
   case h3 => intro w hSw; (try dsimp only at hSw); go_simp; try (with_reducible rfl)
   refine tkH 4 rfl (v := ?v4) ?h4 ?r4
   case h4 => intro w hSw; (try dsimp only at hSw); go_simp; try (with_reducible rfl)
   refine tkH 5 rfl (v := ?v5) ?h5 ?r5
   case h5 => intro w hSw; (try dsimp only at hSw); go_simp; try (with_reducible rfl)
   refine tkH 6 rfl (v := ?v6) ?h6 ?r6
   case h6 => intro w hSw; (try dsimp only at hSw); go_simp; try (with_reducible rfl)
   try simp only [Act.put, lay1, lay2, lay3, lay4, lay5, lay6]
   refine rd2 3 9 rfl rfl (fun K hK => ?_) fun K hK => ?_
   · go_simp
     refine (hO _ _ _ q2).mono ?_
     rintro e u4_1 ⟨v7, rfl, g7, b4_1⟩
     replace q2 := q2.below b4_1
     replace q4 := q4.below b4_1
     replace hI := hI.below b4_1 hI.lt
     replace h7 := h7.below b4_1 h7.lt
     replace m5 := m5.below b4_1
     replace h5 := h5.below b4_1 h5.lt
     replace hB := hB.trans (b4_1.mono hB.size)
     obtain ⟨s37, A37, L37, C37, D37, M37, E37, s38, A38, L38, C38, D38, M38, E38, rfl, q37, q38⟩ := g7.opn
     go_wp2_with fail
     refine hK.out _ _ ?_ (fun hHeld => ?_)
     · exact ⟨h7.cell 0, h7.cell 1, h7.cell 2, h7.cell 3, h7.cell 4, h7.cell 5, h7.cell 6, h7.cell 7, h7.cell 8, h7.cell 9, h7.cell 10, h7.cell 11⟩
     clear hK K
     try simp only [Act.put, lay1, lay2, lay3, lay4, lay5, lay6]
     refine rd2 7 9 rfl rfl (fun K hK => ?_) fun K hK => ?_
     · go_simp
       refine (hO _ _ _ q4).mono ?_
       rintro e u4_2 ⟨v9, rfl, g9, b4_2⟩
       replace q2 := q2.below b4_2
       replace q4 := q4.below b4_2
       replace hI := hI.below b4_2 hI.lt
       replace h7 := h7.below b4_2 h7.lt
       replace m5 := m5.below b4_2
       replace h5 := h5.below b4_2 h5.lt
       replace q37 := q37.below b4_2
       replace q38 := q38.below b4_2
       replace hB := hB.trans (b4_2.mono hB.size)
       obtain ⟨s39, A39, L39, C39, D39, M39, E39, s40, A40, L40, C40, D40, M40, E40, rfl, q39, q40⟩ := g9.opn
       go_wp2_with fail
       refine hK.out _ _ ?_ (fun hHeld => ?_)
       · exact ⟨h7.cell 0, h7.cell 1, h7.cell 2, h7.cell 3, h7.cell 4, h7.cell 5, h7.cell 6, h7.cell 7, h7.cell 8, h7.cell 9, h7.cell 10, h7.cell 11⟩
       clear hK K
       refine tkH 8 rfl (v := ?v7) ?h7 ?r7
       case h7 => intro w hSw; (try dsimp only at hSw); go_simp; try (with_reducible rfl)
       try simp only [Act.put, lay1, lay2, lay3, lay4, lay5, lay6]
       refine rd1 9 rfl fun K hK => ?_
       obtain ⟨u4_3, eu, h9, b4_3⟩ := box1 u4_2 67 #[.bool false, .slice none 0 0, .slice none 0 0, .bool false, .slice none 0 0, .slice none 0 0, .bool false, .slice none 0 0, .slice none 0 0, .bool false, .slice none 0 0, .slice none 0 0]
       obtain ⟨XPA, en⟩ : ∃ X, X = u4_2.heap.size := ⟨_, rfl⟩
       rw [← en] at h9
       have lXPA : w.heap.size ≤ XPA := by rw [en]; exact hB.size
       have dXPA_hI : g ≠ XPA := by have := hI.lt; omega
       have dXPA_h7 : g + 1 ≠ XPA := by have := h7.lt; omega
       have dXPA_h5 : X28 ≠ XPA := by have := h5.lt; omega
       have EUXPA := Lib.hid (And.intro eu en)
       clear eu en
       go_simp
       rw [← EUXPA.out.1, ← EUXPA.out.2]
       replace q2 := q2.below b4_3
       replace q4 := q4.below b4_3
       replace hI := hI.below b4_3 hI.lt
       replace h7 := h7.below b4_3 h7.lt
       replace m5 := m5.below b4_3
       replace h5 := h5.below b4_3 h5.lt
       replace q37 := q37.below b4_3
       replace q38 := q38.below b4_3
       replace q39 := q39.below b4_3
       replace q40 := q40.below b4_3
       replace hB := hB.trans (b4_3.mono hB.size)
       refine hK.out _ _ ?_ (fun hHeld => ?_)
       · exact ⟨h7.cell 0, h7.cell 1, h7.cell 2, h7.cell 3, h7.cell 4, h7.cell 5, h7.cell 6, h7.cell 7, h7.cell 8, h7.cell 9, h7.cell 10, h7.cell 11⟩
       clear hK K
       try simp only [Act.put, lay1, lay2, lay3, lay4, lay5, lay6]
       refine rd1 10 rfl fun K hK => ?_
       obtain ⟨u4_4, eu, h9', kz, kb, kB⟩ := fill12 h9 (.bool s37) (.slice A37 L37 C37) (.slice D37 M37 E37) (.bool s38) (.slice A38 L38 C38) (.slice D38 M38 E38) (.bool s39) (.slice A39 L39 C39) (.slice D39 M39 E39) (.bool s40) (.slice A40 L40 C40) (.slice D40 M40 E40) (by simp [noU])
       have x0 : World.cell? _ ⟨XPA, 0, none⟩ = some (.bool false) := h9.cell 0
       have x1 : World.cell? _ ⟨XPA, 1, none⟩ = some (.slice none 0 0) := h9.cell 1
       have x2 : World.cell? _ ⟨XPA, 2, none⟩ = some (.slice none 0 0) := h9.cell 2
       have x3 : World.cell? _ ⟨XPA, 3, none⟩ = some (.bool false) := h9.cell 3
       have x4 : World.cell? _ ⟨XPA, 4, none⟩ = some (.slice none 0 0) := h9.cell 4
       have x5 : World.cell? _ ⟨XPA, 5, none⟩ = some (.slice none 0 0) := h9.cell 5
       have x6 : World.cell? _ ⟨XPA, 6, none⟩ = some (.bool false) := h9.cell 6
       have x7 : World.cell? _ ⟨XPA, 7, none⟩ = some (.slice none 0 0) := h9.cell 7
       have x8 : World.cell? _ ⟨XPA, 8, none⟩ = some (.slice none 0 0) := h9.cell 8
       have x9 : World.cell? _ ⟨XPA, 9, none⟩ = some (.bool false) := h9.cell 9
       have x10 : World.cell? _ ⟨XPA, 10, none⟩ = some (.slice none 0 0) := h9.cell 10
       have x11 : World.cell? _ ⟨XPA, 11, none⟩ = some (.slice none 0 0) := h9.cell 11
       have xf := h9.frozen
       go_simp
       rw [← eu]
       replace q2 := q2.filled kz
       replace q4 := q4.filled kz
       replace hI := kb _ _ _ hI (by omega)
       replace h7 := kb _ _ _ h7 (by omega)
       replace m5 := m5.filled kz
       replace h5 := kb _ _ _ h5 (by omega)
       replace q37 := q37.filled kz
       replace q38 := q38.filled kz
       replace q39 := q39.filled kz
       replace q40 := q40.filled kz
       replace hB := kB _ _ (by omega) hB
       replace h9 := h9'
       clear h9' kz kb kB eu xf x0 x1 x2 x3 x4 x5 x6 x7 x8 x9 x10 x11
       refine hK.out _ _ ?_ (fun hHeld => ?_)
       · exact ⟨h7.cell 0, h7.cell 1, h7.cell 2, h7.cell 3, h7.cell 4, h7.cell 5, h7.cell 6, h7.cell 7, h7.cell 8, h7.cell 9, h7.cell 10, h7.cell 11⟩
       clear hK K
       try simp only [Act.put, lay1, lay2, lay3, lay4, lay5, lay6]
       try dsimp only
       try simp only [Act.put, lay1, lay2, lay3, lay4, lay5, lay6]
       refine wpAnyH_done (by kernel_rfl) ?_ _
       refine NoPanic.normal ?_
       go_wp2_with fail
       go_meet
       exact ⟨XPA, s37, A37, L37, C37, D37, M37, E37, s38, A38, L38, C38, D38, M38, E38, s39, A39, L39, C39, D39, M39, E39, s40, A40, L40, C40, D40, M40, E40, rfl, hI, h7, m5, h5, q37, q38, q39, q40, h9, hB, lXPA, (by assumption), (by assumption), (by assumption)⟩
     · obtain ⟨u4_5, eu, h9, b4_5⟩ := box1 u4_1 67 #[.bool false, .slice none 0 0, .slice none 0 0, .bool false, .slice none 0 0, .slice none 0 0, .bool false, .slice none 0 0, .slice none 0 0, .bool false, .slice none 0 0, .slice none 0 0]
       obtain ⟨XPA, en⟩ : ∃ X, X = u4_1.heap.size := ⟨_, rfl⟩
       rw [← en] at h9
       have lXPA : w.heap.size ≤ XPA := by rw [en]; exact hB.size
       have dXPA_hI : g ≠ XPA := by have := hI.lt; omega
       have dXPA_h7 : g + 1 ≠ XPA := by have := h7.lt; omega
       have dXPA_h5 : X28 ≠ XPA := by have := h5.lt; omega
       have EUXPA := Lib.hid (And.intro eu en)
       clear eu en
       go_simp
       rw [← EUXPA.out.1, ← EUXPA.out.2]
       replace q2 := q2.below b4_5
       replace q4 := q4.below b4_5
       replace hI := hI.below b4_5 hI.lt
       replace h7 := h7.below b4_5 h7.lt
       replace m5 := m5.below b4_5
       replace h5 := h5.below b4_5 h5.lt
       replace q37 := q37.below b4_5
       replace q38 := q38.below b4_5
       replace hB := hB.trans (b4_5.mono hB.size)
       refine hK.out _ _ ?_ (fun hHeld => ?_)
       · exact ⟨h7.cell 0, h7.cell 1, h7.cell 2, h7.cell 3, h7.cell 4, h7.cell 5, h7.cell 6, h7.cell 7, h7.cell 8, h7.cell 9, h7.cell 10, h7.cell 11⟩
       clear hK K
       try simp only [Act.put, lay1, lay2, lay3, lay4, lay5, lay6]
       refine rd1 7 rfl fun K hK => ?_
       go_simp
       refine (hO _ _ _ q4).mono ?_
       rintro e u4_6 ⟨v9, rfl, g9, b4_6⟩
       replace q2 := q2.below b4_6
       replace q4 := q4.below b4_6
       replace hI := hI.below b4_6 hI.lt
       replace h7 := h7.below b4_6 h7.lt
       replace m5 := m5.below b4_6
       replace h5 := h5.below b4_6 h5.lt
       replace q37 := q37.below b4_6
       replace q38 := q38.below b4_6
       replace h9 := h9.below b4_6 h9.lt
       replace hB := hB.trans (b4_6.mono hB.size)
       obtain ⟨s39, A39, L39, C39, D39, M39, E39, s40, A40, L40, C40, D40, M40, E40, rfl, q39, q40⟩ := g9.opn
       go_wp2_with fail
       refine hK.out _ _ ?_ (fun hHeld => ?_)
       · exact ⟨h7.cell 0, h7.cell 1, h7.cell 2, h7.cell 3, h7.cell 4, h7.cell 5, h7.cell 6, h7.cell 7, h7.cell 8, h7.cell 9, h7.cell 10, h7.cell 11⟩
       clear hK K
       refine tkH 8 rfl (v := ?v8) ?h8 ?r8
       case h8 => intro w hSw; (try dsimp only at hSw); go_simp; try (with_reducible rfl)
       try simp only [Act.put, lay1, lay2, lay3, lay4, lay5, lay6]
       refine rd1 10 rfl fun K hK => ?_
       obtain ⟨u4_7, eu, h9', kz, kb, kB⟩ := fill12 h9 (.bool s37) (.slice A37 L37 C37) (.slice D37 M37 E37) (.bool s38) (.slice A38 L38 C38) (.slice D38 M38 E38) (.bool s39) (.slice A39 L39 C39) (.slice D39 M39 E39) (.bool s40) (.slice A40 L40 C40) (.slice D40 M40 E40) (by simp [noU])
       have x0 : World.cell? _ ⟨XPA, 0, none⟩ = some (.bool false) := h9.cell 0
       have x1 : World.cell? _ ⟨XPA, 1, none⟩ = some (.slice none 0 0) := h9.cell 1
       have x2 : World.cell? _ ⟨XPA, 2, none⟩ = some (.slice none 0 0) := h9.cell 2
       have x3 : World.cell? _ ⟨XPA, 3, none⟩ = some (.bool false) := h9.cell 3
       have x4 : World.cell? _ ⟨XPA, 4, none⟩ = some (.slice none 0 0) := h9.cell 4
       have x5 : World.cell? _ ⟨XPA, 5, none⟩ = some (.slice none 0 0) := h9.cell 5
       have x6 : World.cell? _ ⟨XPA, 6, none⟩ = some (.bool false) := h9.cell 6
       have x7 : World.cell? _ ⟨XPA, 7, none⟩ = some (.slice none 0 0) := h9.cell 7
       have x8 : World.cell? _ ⟨XPA, 8, none⟩ = some (.slice none 0 0) := h9.cell 8
       have x9 : World.cell? _ ⟨XPA, 9, none⟩ = some (.bool false) := h9.cell 9
       have x10 : World.cell? _ ⟨XPA, 10, none⟩ = some (.slice none 0 0) := h9.cell 10
       have x11 : World.cell? _ ⟨XPA, 11, none⟩ = some (.slice none 0 0) := h9.cell 11
       have xf := h9.frozen
       go_simp
       rw [← eu]
       replace q2 := q2.filled kz
       replace q4 := q4.filled kz
       replace hI := kb _ _ _ hI (by omega)
       replace h7 := kb _ _ _ h7 (by omega)
       replace m5 := m5.filled kz
       replace h5 := kb _ _ _ h5 (by omega)
       replace q37 := q37.filled kz
       replace q38 := q38.filled kz
       replace q39 := q39.filled kz
       replace q40 := q40.filled kz
       replace hB := kB _ _ (by omega) hB
       replace h9 := h9'
       clear h9' kz kb kB eu xf x0 x1 x2 x3 x4 x5 x6 x7 x8 x9 x10 x11
       refine hK.out _ _ ?_ (fun hHeld => ?_)
       · exact ⟨h7.cell 0, h7.cell 1, h7.cell 2, h7.cell 3, h7.cell 4, h7.cell 5, h7.cell 6, h7.cell 7, h7.cell 8, h7.cell 9, h7.cell 10, h7.cell 11⟩
       clear hK K
       try simp only [Act.put, lay1, lay2, lay3, lay4, lay5, lay6]
       try dsimp only
       try simp only [Act.put, lay1, lay2, lay3, lay4, lay5, lay6]
       refine wpAnyH_done (by kernel_rfl) ?_ _
       refine NoPanic.normal ?_
       go_wp2_with fail
       go_meet
       exact ⟨XPA, s37, A37, L37, C37, D37, M37, E37, s38, A38, L38, C38, D38, M38, E38, s39, A39, L39, C39, D39, M39, E39, s40, A40, L40, C40, D40, M40, E40, rfl, hI, h7, m5, h5, q37, q38, q39, q40, h9, hB, lXPA, (by assumption), (by assumption), (by assumption)⟩
   · obtain ⟨u4_8, eu, h9, b4_8⟩ := box1 wd4_1 67 #[.bool false, .slice none 0 0, .slice none 0 0, .bool false, .slice none 0 0, .slice none 0 0, .bool false, .slice none 0 0, .slice none 0 0, .bool false, .slice none 0 0, .slice none 0 0]
     obtain ⟨XPA, en⟩ : ∃ X, X = wd4_1.heap.size := ⟨_, rfl⟩
     rw [← en] at h9
     have lXPA : w.heap.size ≤ XPA := by rw [en]; exact hB.size
     have dXPA_hI : g ≠ XPA := by have := hI.lt; omega
     have dXPA_h7 : g + 1 ≠ XPA := by have := h7.lt; omega
     have dXPA_h5 : X28 ≠ XPA := by have := h5.lt; omega
     have EUXPA := Lib.hid (And.intro eu en)
     clear eu en
     go_simp
     rw [← EUXPA.out.1, ← EUXPA.out.2]
     replace q2 := q2.below b4_8
     replace q4 := q4.below b4_8
     replace hI := hI.below b4_8 hI.lt
     replace h7 := h7.below b4_8 h7.lt
     replace m5 := m5.below b4_8
     replace h5 := h5.below b4_8 h5.lt
     replace hB := hB.trans (b4_8.mono hB.size)
     refine hK.out _ _ ?_ (fun hHeld => ?_)
     · exact ⟨h7.cell 0, h7.cell 1, h7.cell 2, h7.cell 3, h7.cell 4, h7.cell 5, h7.cell 6, h7.cell 7, h7.cell 8, h7.cell 9, h7.cell 10, h7.cell 11⟩
     clear hK K
     try simp only [Act.put, lay1, lay2, lay3, lay4, lay5, lay6]
     refine rd1 3 rfl fun K hK => ?_
     go_simp
     refine (hO _ _ _ q2).mono ?_
     rintro e u4_9 ⟨v7, rfl, g7, b4_9⟩
     replace q2 := q2.below b4_9
     replace q4 := q4.below b4_9
     replace hI := hI.below b4_9 hI.lt
     replace h7 := h7.below b4_9 h7.lt
     replace m5 := m5.below b4_9
     replace h5 := h5.below b4_9 h5.lt
     replace h9 := h9.below b4_9 h9.lt
     replace hB := hB.trans (b4_9.mono hB.size)
     obtain ⟨s37, A37, L37, C37, D37, M37, E37, s38, A38, L38, C38, D38, M38, E38, rfl, q37, q38⟩ := g7.opn
     go_wp2_with fail
     refine hK.out _ _ ?_ (fun hHeld => ?_)
     · exact ⟨h7.cell 0, h7.cell 1, h7.cell 2, h7.cell 3, h7.cell 4, h7.cell 5, h7.cell 6, h7.cell 7, h7.cell 8, h7.cell 9, h7.cell 10, h7.cell 11⟩
     clear hK K
     try simp only [Act.put, lay1, lay2, lay3, lay4, lay5, lay6]
     refine rd1 7 rfl fun K hK => ?_
     go_simp
     refine (hO _ _ _ q4).mono ?_
     rintro e u4_10 ⟨v9, rfl, g9, b4_10⟩
     replace q2 := q2.below b4_10
     replace q4 := q4.below b4_10
     replace hI := hI.below b4_10 hI.lt
     replace h7 := h7.below b4_10 h7.lt
     replace m5 := m5.below b4_10
     replace h5 := h5.below b4_10 h5.lt
     replace h9 := h9.below b4_10 h9.lt
     replace q37 := q37.below b4_10
     replace q38 := q38.below b4_10
     replace hB := hB.trans (b4_10.mono hB.size)
     obtain ⟨s39, A39, L39, C39, D39, M39, E39, s40, A40, L40, C40, D40, M40, E40, rfl, q39, q40⟩ := g9.opn
     go_wp2_with fail
     refine hK.out _ _ ?_ (fun hHeld => ?_)
     · exact ⟨h7.cell 0, h7.cell 1, h7.cell 2, h7.cell 3, h7.cell 4, h7.cell 5, h7.cell 6, h7.cell 7, h7.cell 8, h7.cell 9, h7.cell 10, h7.cell 11⟩
     clear hK K
     refine tkH 8 rfl (v := ?v9) ?h9 ?r9
     case h9 => intro w hSw; (try dsimp only at hSw); go_simp; try (with_reducible rfl)
     try simp only [Act.put, lay1, lay2, lay3, lay4, lay5, lay6]
     refine rd1 10 rfl fun K hK => ?_
     obtain ⟨u4_11, eu, h9', kz, kb, kB⟩ := fill12 h9 (.bool s37) (.slice A37 L37 C37) (.slice D37 M37 E37) (.bool s38) (.slice A38 L38 C38) (.slice D38 M38 E38) (.bool s39) (.slice A39 L39 C39) (.slice D39 M39 E39) (.bool s40) (.slice A40 L40 C40) (.slice D40 M40 E40) (by simp [noU])
     have x0 : World.cell? _ ⟨XPA, 0, none⟩ = some (.bool false) := h9.cell 0
     have x1 : World.cell? _ ⟨XPA, 1, none⟩ = some (.slice none 0 0) := h9.cell 1
     have x2 : World.cell? _ ⟨XPA, 2, none⟩ = some (.slice none 0 0) := h9.cell 2
     have x3 : World.cell? _ ⟨XPA, 3, none⟩ = some (.bool false) := h9.cell 3
     have x4 : World.cell? _ ⟨XPA, 4, none⟩ = some (.slice none 0 0) := h9.cell 4
     have x5 : World.cell? _ ⟨XPA, 5, none⟩ = some (.slice none 0 0) := h9.cell 5
     have x6 : World.cell? _ ⟨XPA, 6, none⟩ = some (.bool false) := h9.cell 6
     have x7 : World.cell? _ ⟨XPA, 7, none⟩ = some (.slice none 0 0) := h9.cell 7
     have x8 : World.cell? _ ⟨XPA, 8, none⟩ = some (.slice none 0 0) := h9.cell 8
     have x9 : World.cell? _ ⟨XPA, 9, none⟩ = some (.bool false) := h9.cell 9
     have x10 : World.cell? _ ⟨XPA, 10, none⟩ = some (.slice none 0 0) := h9.cell 10
     have x11 : World.cell? _ ⟨XPA, 11, none⟩ = some (.slice none 0 0) := h9.cell 11
     have xf := h9.frozen
     go_simp
     rw [← eu]
     replace q2 := q2.filled kz
     replace q4 := q4.filled kz
     replace hI := kb _ _ _ hI (by omega)
     replace h7 := kb _ _ _ h7 (by omega)
     replace m5 := m5.filled kz
     replace h5 := kb _ _ _ h5 (by omega)
     replace q37 := q37.filled kz
     replace q38 := q38.filled kz
     replace q39 := q39.filled kz
     replace q40 := q40.filled kz
     replace hB := kB _ _ (by omega) hB
     replace h9 := h9'
     clear h9' kz kb kB eu xf x0 x1 x2 x3 x4 x5 x6 x7 x8 x9 x10 x11
     refine hK.out _ _ ?_ (fun hHeld => ?_)
     · exact ⟨h7.cell 0, h7.cell 1, h7.cell 2, h7.cell 3, h7.cell 4, h7.cell 5, h7.cell 6, h7.cell 7, h7.cell 8, h7.cell 9, h7.cell 10, h7.cell 11⟩
     clear hK K
     try simp only [Act.put, lay1, lay2, lay3, lay4, lay5, lay6]
     try dsimp only
     try simp only [Act.put, lay1, lay2, lay3, lay4, lay5, lay6]
     refine wpAnyH_done (by kernel_rfl) ?_ _
     refine NoPanic.normal ?_
     go_wp2_with fail
     go_meet
     exact ⟨XPA, s37, A37, L37, C37, D37, M37, E37, s38, A38, L38, C38, D38, M38, E38, s39, A39, L39, C39, D39, M39, E39, s40, A40, L40, C40, D40, M40, E40, rfl, hI, h7, m5, h5, q37, q38, q39, q40, h9, hB, lXPA, (by assumption), (by assumption), (by assumption)⟩
 obtain ⟨XPA, s37, A37, L37, C37, D37, M37, E37, s38, A38, L38, C38, D38, M38, E38, s39, A39, L39, C39, D39, M39, E39, s40, A40, L40, C40, D40, M40, E40, rfl, hI, h7, m5, h5, q37, q38, q39, q40, h9, hB, lXPA, dXPA_hI, dXPA_h7, dXPA_h5⟩ := hcut
 obtain ⟨c131, c132, c133, c134, c135, c136, c137, c138, c139, c140, c141, c142, c143⟩ := hI.q13
 obtain ⟨c144, c145, c146, c147, c148, c149, c150, c151, c152, c153, c154, c155⟩ := h7.q12
 obtain ⟨c156, c157, c158, c159, c160, c161⟩ := h5.q6
 obtain ⟨c162, c163, c164, c165, c166, c167, c168, c169, c170, c171, c172, c173⟩ := h9.q12
 go_wp2_with fail
 refine (hV _ _ _ _ _ _ _ _ _ _ _ _ _ _ _ _ _ _ _ _ _ _ _ _ _ _ _ _ _ ⟨_, _, _, _, _, _, rfl, q37, q38⟩ ⟨_, _, _, _, _, _, rfl, q39, q40⟩).mono ?_
 rintro e w31 ⟨v11, rfl, m41, b31⟩
 replace hI := hI.below b31 hI.lt
 replace h7 := h7.below b31 h7.lt
 replace m5 := m5.below b31
 replace h5 := h5.below b31 h5.lt
 replace q37 := q37.below b31
 replace q38 := q38.below b31
 replace q39 := q39.below b31
 replace q40 := q40.below b31
 replace h9 := h9.below b31 h9.lt
 replace hB := hB.trans (b31.mono hB.size)
 clear c131 c132 c133 c134 c135 c136 c137 c138 c139 c140 c141 c142 c143 c144 c145 c146 c147 c148 c149 c150 c151 c152 c153 c154 c155 c156 c157 c158 c159 c160 c161 c162 c163 c164 c165 c166 c167 c168 c169 c170 c171 c172 c173
 obtain ⟨c174, c175, c176, c177, c178, c179, c180, c181, c182, c183, c184, c185, c186⟩ := hI.q13
 obtain ⟨c187, c188, c189, c190, c191, c192, c193, c194, c195, c196, c197, c198⟩ := h7.q12
 obtain ⟨c199, c200, c201, c202, c203, c204⟩ := h5.q6
 obtain ⟨c205, c206, c207, c208, c209, c210, c211, c212, c213, c214, c215, c216⟩ := h9.q12
 obtain ⟨s41, A41, L41, C41, D41, M41, E41, s42, A42, L42, C42, D42, M42, E42, rfl, m41⟩ := m41.opn
 obtain ⟨V33, eV, h11, bV33⟩ := box1 w31 46 #[.bool s41, .slice A41 L41 C41, .slice D41 M41 E41, .bool s42, .slice A42 L42 C42, .slice D42 M42 E42]
 obtain ⟨X33, eX⟩ : ∃ X, X = w31.heap.size := ⟨_, rfl⟩
 rw [← eX] at h11
 have lX33 : w.heap.size ≤ X33 := by rw [eX]; exact hB.size
 have dX33_hI : g ≠ X33 := by have := hI.lt; omega
 have dX33_h7 : g + 1 ≠ X33 := by have := h7.lt; omega
 have dX33_h5 : X28 ≠ X33 := by have := h5.lt; omega
 have dX33_h9 : XPA ≠ X33 := by have := h9.lt; omega
 have EV33 := Lib.hid (And.intro eV eX)
 clear eV eX
 go_upto_region 6 with fail
 rw [← EV33.out.1, ← EV33.out.2]
 replace hI := hI.below bV33 hI.lt
 replace h7 := h7.below bV33 h7.lt
 replace m5 := m5.below bV33
 replace h5 := h5.below bV33 h5.lt
 replace h9 := h9.below bV33 h9.lt
 replace m41 := m41.below bV33
 replace hB := hB.trans (bV33.mono hB.size)
 clear c174 c175 c176 c177 c178 c179 c180 c181 c182 c183 c184 c185 c186 c187 c188 c189 c190 c191 c192 c193 c194 c195 c196 c197 c198 c199 c200 c201 c202 c203 c204 c205 c206 c207 c208 c209 c210 c211 c212 c213 c214 c215 c216
 obtain ⟨c217, c218, c219, c220, c221, c222, c223, c224, c225, c226, c227, c228, c229⟩ := hI.q13
 obtain ⟨c230, c231, c232, c233, c234, c235, c236, c237, c238, c239, c240, c241⟩ := h7.q12
 obtain ⟨c242, c243, c244, c245, c246, c247⟩ := h5.q6
 obtain ⟨c248, c249, c250, c251, c252, c253, c254, c255, c256, c257, c258, c259⟩ := h9.q12
 obtain ⟨c260, c261, c262, c263, c264, c265⟩ := h11.q6
 rcases Bool.eq_false_or_eq_true bad with hb | hb
 · obtain rfl := HER.out.1 hb
   clear hb
   go_wp2_with fail
   refine (hA _).mono ?_
   rintro e w35 ⟨rfl, b35⟩
   replace hI := hI.below b35 hI.lt
   replace h7 := h7.below b35 h7.lt
   replace m5 := m5.below b35
   replace h5 := h5.below b35 h5.lt
   replace h9 := h9.below b35 h9.lt
   replace m41 := m41.below b35
   replace h11 := h11.below b35 h11.lt
   replace hB := hB.trans (b35.mono hB.size)
   clear c217 c218 c219 c220 c221 c222 c223 c224 c225 c226 c227 c228 c229 c230 c231 c232 c233 c234 c235 c236 c237 c238 c239 c240 c241 c242 c243 c244 c245 c246 c247 c248 c249 c250 c251 c252 c253 c254 c255 c256 c257 c258 c259 c260 c261 c262 c263 c264 c265
   obtain ⟨c266, c267, c268, c269, c270, c271, c272, c273, c274, c275, c276, c277, c278⟩ := hI.q13
   obtain ⟨c279, c280, c281, c282, c283, c284, c285, c286, c287, c288, c289, c290⟩ := h7.q12
   obtain ⟨c291, c292, c293, c294, c295, c296⟩ := h5.q6
   obtain ⟨c297, c298, c299, c300, c301, c302, c303, c304, c305, c306, c307, c308⟩ := h9.q12
   obtain ⟨c309, c310, c311, c312, c313, c314⟩ := h11.q6
   go_wp2
   go_ret
   exact ⟨rfl, hB⟩
 · obtain rfl := HER.out.2 hb
   replace hIn := hIn.out hb
   replace hR1 := hR1.out hb
   replace hR2 := hR2.out hb
   unfold ResS at m5 m41
   simp only [hb, Bool.false_eq_true, ↓reduceIte] at m5 m41
   clear hb
   go_wp2_with fail
   refine (hA _).mono ?_
   rintro e w35 ⟨rfl, b35⟩
   replace hI := hI.below b35 hI.lt
   replace h7 := h7.below b35 h7.lt
   replace m5 := m5.below b35
   replace h5 := h5.below b35 h5.lt
   replace h9 := h9.below b35 h9.lt
   replace m41 := m41.below b35
   replace h11 := h11.below b35 h11.lt
   replace hB := hB.trans (b35.mono hB.size)
   clear c217 c218 c219 c220 c221 c222 c223 c224 c225 c226 c227 c228 c229 c230 c231 c232 c233 c234 c235 c236 c237 c238 c239 c240 c241 c242 c243 c244 c245 c246 c247 c248 c249 c250 c251 c252 c253 c254 c255 c256 c257 c258 c259 c260 c261 c262 c263 c264 c265
   obtain ⟨c266, c267, c268, c269, c270, c271, c272, c273, c274, c275, c276, c277, c278⟩ := hI.q13
   obtain ⟨c279, c280, c281, c282, c283, c284, c285, c286, c287, c288, c289, c290⟩ := h7.q12
   obtain ⟨c291, c292, c293, c294, c295, c296⟩ := h5.q6
   obtain ⟨c297, c298, c299, c300, c301, c302, c303, c304, c305, c306, c307, c308⟩ := h9.q12
   obtain ⟨c309, c310, c311, c312, c313, c314⟩ := h11.q6
   go_wp2_with fail
   refine (hIn _ _ _ m41 m5).mono ?_
   rintro e w37 ⟨rfl, b37⟩
   replace hI := hI.below b37 hI.lt
   replace h7 := h7.below b37 h7.lt
   replace m5 := m5.below b37
   replace h5 := h5.below b37 h5.lt
   replace h9 := h9.below b37 h9.lt
   replace m41 := m41.below b37
   replace h11 := h11.below b37 h11.lt
   replace hB := hB.trans (b37.mono hB.size)
   clear c266 c267 c268 c269 c270 c271 c272 c273 c274 c275 c276 c277 c278 c279 c280 c281 c282 c283 c284 c285 c286 c287 c288 c289 c290 c291 c292 c293 c294 c295 c296 c297 c298 c299 c300 c301 c302 c303 c304 c305 c306 c307 c308 c309 c310 c311 c312 c313 c314
   obtain ⟨c315, c316, c317, c318, c319, c320, c321, c322, c323, c324, c325, c326, c327⟩ := hI.q13
   obtain ⟨c328, c329, c330, c331, c332, c333, c334, c335, c336, c337, c338, c339⟩ := h7.q12
   obtain ⟨c340, c341, c342, c343, c344, c345⟩ := h5.q6
   obtain ⟨c346, c347, c348, c349, c350, c351, c352, c353, c354, c355, c356, c357⟩ := h9.q12
   obtain ⟨c358, c359, c360, c361, c362, c363⟩ := h11.q6
   go_wp2_with fail
   refine (hR1 _ _ m5).mono ?_
   rintro e w39 ⟨rfl, b39⟩
   replace hI := hI.below b39 hI.lt
   replace h7 := h7.below b39 h7.lt
   replace m5 := m5.below b39
   replace h5 := h5.below b39 h5.lt
   replace h9 := h9.below b39 h9.lt
   replace m41 := m41.below b39
   replace h11 := h11.below b39 h11.lt
   replace hB := hB.trans (b39.mono hB.size)
   clear c315 c316 c317 c318 c319 c320 c321 c322 c323 c324 c325 c326 c327 c328 c329 c330 c331 c332 c333 c334 c335 c336 c337 c338 c339 c340 c341 c342 c343 c344 c345 c346 c347 c348 c349 c350 c351 c352 c353 c354 c355 c356 c357 c358 c359 c360 c361 c362 c363
   obtain ⟨c364, c365, c366, c367, c368, c369, c370, c371, c372, c373, c374, c375, c376⟩ := hI.q13
   obtain ⟨c377, c378, c379, c380, c381, c382, c383, c384, c385, c386, c387, c388⟩ := h7.q12
   obtain ⟨c389, c390, c391, c392, c393, c394⟩ := h5.q6
   obtain ⟨c395, c396, c397, c398, c399, c400, c401, c402, c403, c404, c405, c406⟩ := h9.q12
   obtain ⟨c407, c408, c409, c410, c411, c412⟩ := h11.q6
   go_wp2_with fail
   refine (hR2 _ _ m41).mono ?_
   rintro e w41 ⟨rfl, b41⟩
   replace hI := hI.below b41 hI.lt
   replace h7 := h7.below b41 h7.lt
   replace m5 := m5.below b41
   replace h5 := h5.below b41 h5.lt
   replace h9 := h9.below b41 h9.lt
   replace m41 := m41.below b41
   replace h11 := h11.below b41 h11.lt
   replace hB := hB.trans (b41.mono hB.size)
   clear c364 c365 c366 c367 c368 c369 c370 c371 c372 c373 c374 c375 c376 c377 c378 c379 c380 c381 c382 c383 c384 c385 c386 c387 c388 c389 c390 c391 c392 c393 c394 c395 c396 c397 c398 c399 c400 c401 c402 c403 c404 c405 c406 c407 c408 c409 c410 c411 c412
   obtain ⟨c413, c414, c415, c416, c417, c418, c419, c420, c421, c422, c423, c424, c425⟩ := hI.q13
   obtain ⟨c426, c427, c428, c429, c430, c431, c432, c433, c434, c435, c436, c437⟩ := h7.q12
   obtain ⟨c438, c439, c440, c441, c442, c443⟩ := h5.q6
   obtain ⟨c444, c445, c446, c447, c448, c449, c450, c451, c452, c453, c454, c455⟩ := h9.q12
   obtain ⟨c456, c457, c458, c459, c460, c461⟩ := h11.q6
   go_wp2
   go_ret
   exact ⟨rfl, hB⟩
set_option maxRecDepth 100000 in
set_option maxHeartbeats 8000000 in
theorem TrackIn_no (lr b1 b2 eps wd : Int) (apart : Bool) (f p0 p1 t : Int) (g0 g1 g2 g3 : Value) (s1 s2 s3 s4 : Bool) (A1 D1 A2 D2 A3 D3 A4 D4 : Option Addr) (C1 E1 C2 E2 C3 E3 C4 E4 : Nat) (l1 m1 l2 m2 l3 m3 l4 m4 : List Nat) (w : World) (i1 : In64 lr) (i2 : In64 b1) (i3 : In64 b2) (i4 : In64 eps) (p1' : IsL w (.slice A1 l1.length C1) l1) (t1' : IsL w (.slice D1 m1.length E1) m1) (p2' : IsL w (.slice A2 l2.length C2) l2) (t2' : IsL w (.slice D2 m2.length E2) m2) (p3' : IsL w (.slice A3 l3.length C3) l3) (t3' : IsL w (.slice D3 m3.length E3) m3) (p4' : IsL w (.slice A4 l4.length C4) l4) (t4' : IsL w (.slice D4 m4.length E4) m4) (hf1 : fewI s1 l1 m1 s2 l2 m2 2 = true) (hf2 : fewI s3 l3 m3 s4 l4 m4 2 = true) (hb : updBad lr b1 b2 eps wd f t (theQ s4 l4 m4) = true) :
   Calls Tryz.prog 6 #[.agg #[.int .i64 lr, .int .i64 b1, .int .i64 b2, .int .i64 eps, .int .i64 wd, .bool apart, .int .i64 f, .int .i64 p0, .int .i64 p1, g0, g1, g2, g3], .agg #[.bool s1, .slice A1 l1.length C1, .slice D1 m1.length E1, .bool s2, .slice A2 l2.length C2, .slice D2 m2.length E2, .bool s3, .slice A3 l3.length C3, .slice D3 m3.length E3, .bool s4, .slice A4 l4.length C4, .slice D4 m4.length E4], .int .i64 t] w fun e w' => e = .returned (.bool true) ∧ Below w.heap.size w w' := by
 have hf1' := hf1
 have hf2' := hf2
 unfold fewI at hf1 hf2
 unfold rightI at hf1 hf2
 simp only [Bool.and_eq_true, decide_eq_true_eq] at hf1 hf2
 obtain ⟨⟨f1, f2⟩, _, o1⟩ := hf1
 obtain ⟨⟨f3, f4⟩, _, o2⟩ := hf2
 unfold fewQ at f1 f2 f3 f4
 simp only [Bool.and_eq_true, decide_eq_true_eq] at f1 f2 f3 f4
 obtain ⟨q1, c1, -, -⟩ := isQ_of p1' t1' f1.2.2
 obtain ⟨q2, c2, -, -⟩ := isQ_of p2' t2' f2.2.2
 obtain ⟨q3, c3, -, -⟩ := isQ_of p3' t3' f3.2.2
 obtain ⟨q4, c4, -, -⟩ := isQ_of p4' t4' f4.2.2
 replace c1 := c1.more (m := 10) (by omega)
 replace c2 := c2.more (m := 10) (by omega)
 replace c3 := c3.more (m := 10) (by omega)
 replace c4 := c4.more (m := 10) (by omega)
 clear f1 f2 f3 f4
 generalize theQ s1 l1 m1 = y1 at *
 generalize theQ s2 l2 m2 = y2 at *
 generalize theQ s3 l3 m3 = y3 at *
 generalize theQ s4 l4 m4 = y4 at *
 have hU := fun w h1 h2 => pupd_res lr b1 b2 eps wd apart f t y1 y2 y3 y4 w i1 i2 i3 i4 A1 D1 A2 D2 A3 D3 A4 D4 l1.length C1 m1.length E1 l2.length C2 m2.length E2 l3.length C3 m3.length E3 l4.length C4 m4.length E4 s1 s2 s3 s4 h1 h2 c1 c2 c3 c4
 have hV := fun w s5 s6 s7 s8 A5 D5 A6 D6 A7 D7 A8 D8 L5 C5 M5 E5 L6 C6 M6 E6 L7 C7 M7 E7 L8 C8 M8 E8 h1 h2 => pupd_res lr b1 b2 eps wd apart f t y2 y2 y4 y4 w i1 i2 i3 i4 A5 D5 A6 D6 A7 D7 A8 D8 L5 C5 M5 E5 L6 C6 M6 E6 L7 C7 M7 E7 L8 C8 M8 E8 s5 s6 s7 s8 h1 h2 c2 c2 c4 c4
 rw [hb] at hU hV
 exact TrackIn_ok lr b1 b2 eps wd apart f p0 p1 t g0 g1 g2 g3 s1 s2 s3 s4 A1 D1 A2 D2 A3 D3 A4 D4 C1 E1 C2 E2 C3 E3 C4 E4 l1 m1 l2 m2 l3 m3 l4 m4 w i1 i2 i3 i4 p1' t1' p2' t2' p3' t3' p4' t4' hf1' hf2' y1 y2 y3 y4 _ _ _ _ true q1 q2 q3 q4 hU hV (fun h => nomatch h) (fun h => nomatch h) (fun h => nomatch h)
set_option maxRecDepth 100000 in
set_option maxHeartbeats 8000000 in
theorem TrackIn_yes (lr b1 b2 eps wd : Int) (apart : Bool) (f p0 p1 t : Int) (g0 g1 g2 g3 : Value) (s1 s2 s3 s4 : Bool) (A1 D1 A2 D2 A3 D3 A4 D4 : Option Addr) (C1 E1 C2 E2 C3 E3 C4 E4 : Nat) (l1 m1 l2 m2 l3 m3 l4 m4 : List Nat) (w : World) (i1 : In64 lr) (i2 : In64 b1) (i3 : In64 b2) (i4 : In64 eps) (p1' : IsL w (.slice A1 l1.length C1) l1) (t1' : IsL w (.slice D1 m1.length E1) m1) (p2' : IsL w (.slice A2 l2.length C2) l2) (t2' : IsL w (.slice D2 m2.length E2) m2) (p3' : IsL w (.slice A3 l3.length C3) l3) (t3' : IsL w (.slice D3 m3.length E3) m3) (p4' : IsL w (.slice A4 l4.length C4) l4) (t4' : IsL w (.slice D4 m4.length E4) m4) (hf1 : fewI s1 l1 m1 s2 l2 m2 2 = true) (hf2 : fewI s3 l3 m3 s4 l4 m4 2 = true) (hb : updBad lr b1 b2 eps wd f t (theQ s4 l4 m4) = false) :
   Calls Tryz.prog 6 #[.agg #[.int .i64 lr, .int .i64 b1, .int .i64 b2, .int .i64 eps, .int .i64 wd, .bool apart, .int .i64 f, .int .i64 p0, .int .i64 p1, g0, g1, g2, g3], .agg #[.bool s1, .slice A1 l1.length C1, .slice D1 m1.length E1, .bool s2, .slice A2 l2.length C2, .slice D2 m2.length E2, .bool s3, .slice A3 l3.length C3, .slice D3 m3.length E3, .bool s4, .slice A4 l4.length C4, .slice D4 m4.length E4], .int .i64 t] w fun e w' => e = .returned (.bool true) ∧ Below w.heap.size w w' := by
 have hf1' := hf1
 have hf2' := hf2
 unfold fewI at hf1 hf2
 unfold rightI at hf1 hf2
 simp only [Bool.and_eq_true, decide_eq_true_eq] at hf1 hf2
 obtain ⟨⟨f1, f2⟩, _, o1⟩ := hf1
 obtain ⟨⟨f3, f4⟩, _, o2⟩ := hf2
 unfold fewQ at f1 f2 f3 f4
 simp only [Bool.and_eq_true, decide_eq_true_eq] at f1 f2 f3 f4
 obtain ⟨q1, c1, -, -⟩ := isQ_of p1' t1' f1.2.2
 obtain ⟨q2, c2, -, -⟩ := isQ_of p2' t2' f2.2.2
 obtain ⟨q3, c3, -, -⟩ := isQ_of p3' t3' f3.2.2
 obtain ⟨q4, c4, -, -⟩ := isQ_of p4' t4' f4.2.2
 replace c1 := c1.more (m := 10) (by omega)
 replace c2 := c2.more (m := 10) (by omega)
 replace c3 := c3.more (m := 10) (by omega)
 replace c4 := c4.more (m := 10) (by omega)
 clear f1 f2 f3 f4
 generalize theQ s1 l1 m1 = y1 at *
 generalize theQ s2 l2 m2 = y2 at *
 generalize theQ s3 l3 m3 = y3 at *
 generalize theQ s4 l4 m4 = y4 at *
 have hU := fun w h1 h2 => pupd_res lr b1 b2 eps wd apart f t y1 y2 y3 y4 w i1 i2 i3 i4 A1 D1 A2 D2 A3 D3 A4 D4 l1.length C1 m1.length E1 l2.length C2 m2.length E2 l3.length C3 m3.length E3 l4.length C4 m4.length E4 s1 s2 s3 s4 h1 h2 c1 c2 c3 c4
 have hV := fun w s5 s6 s7 s8 A5 D5 A6 D6 A7 D7 A8 D8 L5 C5 M5 E5 L6 C6 M6 E6 L7 C7 M7 E7 L8 C8 M8 E8 h1 h2 => pupd_res lr b1 b2 eps wd apart f t y2 y2 y4 y4 w i1 i2 i3 i4 A5 D5 A6 D6 A7 D7 A8 D8 L5 C5 M5 E5 L6 C6 M6 E6 L7 C7 M7 E7 L8 C8 M8 E8 s5 s6 s7 s8 h1 h2 c2 c2 c4 c4
 rw [hb] at hU hV
 unfold updBad at hb
 simp only [Bool.or_eq_false_iff, Bool.not_eq_false'] at hb
 obtain ⟨hr, t1, t2, n1⟩ := hb
 replace t1 := of_decide_eq_false t1
 replace t2 := of_decide_eq_false t2
 replace n1 := of_decide_eq_false n1
 unfold rightA at hr
 have hr' := of_decide_eq_true hr
 obtain ⟨f0, hk40, hlr, heps, ⟨hb10, hb11⟩, ⟨hb20, hb21⟩, _⟩ := hr'
 have lp1 := lack_pos hb10 hb11 (t := t.toNat) (by omega)
 have lp2 := lack_pos hb20 hb21 (t := t.toNat) (by omega)
 have pe : 0 < mkRat eps (2 ^ f.toNat) := by
   rw [Rat.mkRat_eq_div, Rat.div_def]
   exact Rat.mul_pos (by have : ((0 : Int) : Rat) < (eps : Rat) := by rw [Rat.intCast_lt_intCast]; exact heps
                         exact this) (Rat.inv_pos.2 (by have := powQ_pos f.toNat; simpa using this))
 have sone : BQ (1 : Rat) 1 := BQ.int (n := 1) (by unfold W64; omega)
 have sm := fun (b : Int) (hb : In64 b) => (BQ.mk (Sz.u64 (by have := hb.1; have := hb.2; unfold W64; omega)) ((Sz.two_pow f.toNat).more (by omega)) (by omega) : BQ (mkRat b (2 ^ f.toNat)) 1)
 have sl := fun (b : Int) (hb : In64 b) => (show BQ (1 - powQ (mkRat b (2 ^ f.toNat)) t.toNat) 130 by rw [Rat.sub_eq_add_neg]; exact (sone.add (sz_powQ (sm b hb) t.toNat).neg).more (by omega))
 rw [cmpQ_le_iff] at o1 o2
 have py4 : 0 ≤ y4 := by rw [← Rat.num_nonneg]; omega
 have bz : BQ (0 : Rat) 10 := (BQ.int (n := 0) (by unfold W64; omega)).more (by omega)
 have c3' : BQ (if y3.num < 0 then 0 else y3) 10 := by split <;> assumption
 have o3 : 0 ≤ (if y3.num < 0 then 0 else y3) ∧ (if y3.num < 0 then 0 else y3) ≤ y4 := by
   split
   · exact ⟨Rat.le_refl, py4⟩
   · exact ⟨by rw [← Rat.num_nonneg]; omega, o2⟩
 have e4 : (if y4.num < 0 then 0 else y4) = y4 := if_neg n1
 rw [e4] at hV
 generalize (if y3.num < 0 then 0 else y3) = z3 at *
 obtain ⟨z1, z2⟩ := upd_sizes c1 c2 c3' c4 (sl b1 i2) (sl b2 i3) (sm eps i4) (sm lr i1)
 obtain ⟨z5, z6⟩ := upd_sizes c2 c2 c4 c4 (sl b1 i2) (sl b2 i3) (sm eps i4) (sm lr i1)
 obtain ⟨k1, k2⟩ := updIn (r := mkRat lr (2 ^ f.toNat)) lp1 lp2 pe o1 o3.1 o3.2
 have k3 := upd_lo_hi (1 - powQ (mkRat b1 (2 ^ f.toNat)) t.toNat) (1 - powQ (mkRat b2 (2 ^ f.toNat)) t.toNat) (mkRat eps (2 ^ f.toNat)) (mkRat lr (2 ^ f.toNat)) y1 y2 z3 y4
 have k4 := upd_lo_hi (1 - powQ (mkRat b1 (2 ^ f.toNat)) t.toNat) (1 - powQ (mkRat b2 (2 ^ f.toNat)) t.toNat) (mkRat eps (2 ^ f.toNat)) (mkRat lr (2 ^ f.toNat)) y2 y2 y4 y4
 generalize updLo (1 - powQ (mkRat b1 (2 ^ f.toNat)) t.toNat) (1 - powQ (mkRat b2 (2 ^ f.toNat)) t.toNat) (mkRat eps (2 ^ f.toNat)) (mkRat lr (2 ^ f.toNat)) y1 y2 z3 y4 = lo at *
 generalize updHi (1 - powQ (mkRat b1 (2 ^ f.toNat)) t.toNat) (1 - powQ (mkRat b2 (2 ^ f.toNat)) t.toNat) (mkRat eps (2 ^ f.toNat)) (mkRat lr (2 ^ f.toNat)) y1 y2 z3 y4 = hi at *
 generalize updLo (1 - powQ (mkRat b1 (2 ^ f.toNat)) t.toNat) (1 - powQ (mkRat b2 (2 ^ f.toNat)) t.toNat) (mkRat eps (2 ^ f.toNat)) (mkRat lr (2 ^ f.toNat)) y2 y2 y4 y4 = lp at *
 generalize updHi (1 - powQ (mkRat b1 (2 ^ f.toNat)) t.toNat) (1 - powQ (mkRat b2 (2 ^ f.toNat)) t.toNat) (mkRat eps (2 ^ f.toNat)) (mkRat lr (2 ^ f.toNat)) y2 y2 y4 y4 = hp at *
 exact TrackIn_ok lr b1 b2 eps wd apart f p0 p1 t g0 g1 g2 g3 s1 s2 s3 s4 A1 D1 A2 D2 A3 D3 A4 D4 C1 E1 C2 E2 C3 E3 C4 E4 l1 m1 l2 m2 l3 m3 l4 m4 w i1 i2 i3 i4 p1' t1' p2' t2' p3' t3' p4' t4' hf1' hf2' y1 y2 y3 y4 lo hi lp hp false q1 q2 q3 q4 hU hV
   (fun _ u v w h h' => rsin_S u v lp hp lo hi w h h' (z5.more (by omega)) (z6.more (by omega)) (z1.more (by omega)) (z2.more (by omega)) k1 (Rat.le_trans k4 k2) (Rat.le_trans k1 k4) k2)
   (fun _ v w h => rsright_S v lo hi w h z1 z2 k3) (fun _ v w h => rsright_S v lp hp w h z5 z6 k4)
theorem TrackIn_all (lr b1 b2 eps wd : Int) (apart : Bool) (f p0 p1 t : Int) (g0 g1 g2 g3 : Value) (s1 s2 s3 s4 : Bool) (A1 D1 A2 D2 A3 D3 A4 D4 : Option Addr) (C1 E1 C2 E2 C3 E3 C4 E4 : Nat) (l1 m1 l2 m2 l3 m3 l4 m4 : List Nat) (w : World) (i1 : In64 lr) (i2 : In64 b1) (i3 : In64 b2) (i4 : In64 eps) (p1' : IsL w (.slice A1 l1.length C1) l1) (t1' : IsL w (.slice D1 m1.length E1) m1) (p2' : IsL w (.slice A2 l2.length C2) l2) (t2' : IsL w (.slice D2 m2.length E2) m2) (p3' : IsL w (.slice A3 l3.length C3) l3) (t3' : IsL w (.slice D3 m3.length E3) m3) (p4' : IsL w (.slice A4 l4.length C4) l4) (t4' : IsL w (.slice D4 m4.length E4) m4) :
   Calls Tryz.prog 6 #[.agg #[.int .i64 lr, .int .i64 b1, .int .i64 b2, .int .i64 eps, .int .i64 wd, .bool apart, .int .i64 f, .int .i64 p0, .int .i64 p1, g0, g1, g2, g3], .agg #[.bool s1, .slice A1 l1.length C1, .slice D1 m1.length E1, .bool s2, .slice A2 l2.length C2, .slice D2 m2.length E2, .bool s3, .slice A3 l3.length C3, .slice D3 m3.length E3, .bool s4, .slice A4 l4.length C4, .slice D4 m4.length E4], .int .i64 t] w fun e w' => e = .returned (.bool true) ∧ Below w.heap.size w w' := by
 cases hf1 : fewI s1 l1 m1 s2 l2 m2 2
 · exact TrackIn_u1 lr b1 b2 eps wd apart f p0 p1 t g0 g1 g2 g3 s1 s2 s3 s4 A1 D1 A2 D2 A3 D3 A4 D4 C1 E1 C2 E2 C3 E3 C4 E4 l1 m1 l2 m2 l3 m3 l4 m4 w i1 i2 i3 i4 p1' t1' p2' t2' p3' t3' p4' t4' hf1
 cases hf2 : fewI s3 l3 m3 s4 l4 m4 2
 · exact TrackIn_u2 lr b1 b2 eps wd apart f p0 p1 t g0 g1 g2 g3 s1 s2 s3 s4 A1 D1 A2 D2 A3 D3 A4 D4 C1 E1 C2 E2 C3 E3 C4 E4 l1 m1 l2 m2 l3 m3 l4 m4 w i1 i2 i3 i4 p1' t1' p2' t2' p3' t3' p4' t4' hf1 hf2
 cases hb : updBad lr b1 b2 eps wd f t (theQ s4 l4 m4)
 · exact TrackIn_yes lr b1 b2 eps wd apart f p0 p1 t g0 g1 g2 g3 s1 s2 s3 s4 A1 D1 A2 D2 A3 D3 A4 D4 C1 E1 C2 E2 C3 E3 C4 E4 l1 m1 l2 m2 l3 m3 l4 m4 w i1 i2 i3 i4 p1' t1' p2' t2' p3' t3' p4' t4' hf1 hf2 hb
 · exact TrackIn_no lr b1 b2 eps wd apart f p0 p1 t g0 g1 g2 g3 s1 s2 s3 s4 A1 D1 A2 D2 A3 D3 A4 D4 C1 E1 C2 E2 C3 E3 C4 E4 l1 m1 l2 m2 l3 m3 l4 m4 w i1 i2 i3 i4 p1' t1' p2' t2' p3' t3' p4' t4' hf1 hf2 hb
end Go.Proofs.YtdnjdglekifhpaaGreat
namespace Go.Proofs.YtdnjdglekifhpaaGreat
open Go.ChangeShapes Go.WideShapes Go.ChangeAt Go.RowKit
set_option maxRecDepth 100000 in
theorem open_limbs_c {H : Type} {enc : TypeId × Value → H} {W : World} {t : TypeId} {v : Value} {fuel : Nat} {x : DataW H × List MemPlace} (ht : Tryz.prog.underlying t = some (.slice 141))
   (h : DataW.trod enc Tryz.prog W 0 (fun _ => true) true fuel t [v] = some x) (hlt : ∀ p ∈ x.2, p.block < W.heap.size) : ∃ l, IsL W v l := by
 rcases open_ints ht Tryz.underlying141 (by kernel_rfl : Tryz.prog.cellsOf 141 = 1) h with ⟨hcs, hx⟩ | ⟨a, len, cap, zs, hcs, _, hl, hm, hz, hx, hcell, hwz⟩
 · obtain rfl : v = _ := by simpa using hcs
   exact ⟨[], IsL.nil W⟩
 · obtain rfl : v = _ := by simpa using hcs
   subst hx
   simp only at hlt
   simp only [if_true] at hz
   unfold maxLen at hm
   have hll : ((zs.take len).map Int.toNat).length = len := by simp; omega
   refine ⟨(zs.take len).map Int.toNat, some a, cap, by rw [hll], by omega, by omega, ?_, ?_⟩
   · intro x hx
     obtain ⟨z, hz', rfl⟩ := List.mem_map.1 hx
     have := wf_u64 (hwz z (List.mem_of_mem_take hz'))
     omega
   · rw [hll]
     refine ⟨by rw [us_len, hll]; omega, fun h0 => ⟨a, rfl, ?_, fun j u hu => ?_⟩⟩
     · obtain ⟨b, off, spot⟩ := a
       have hspot : spot = none := by simpa [Addr.add] using World.cell?_spot (hcell 0 (by omega))
       subst hspot
       exact hlt (.cell b off) (MemPlace.mem_row.2 ⟨0, by omega, by simp⟩)
     · have hj : j < len := by
         rcases Nat.lt_or_ge j len with h' | h'
         · exact h'
         · rw [List.getElem?_eq_none (by rw [us_len, hll]; exact h')] at hu; cases hu
       have hjz : j < zs.length := by omega
       have hwf := wf_u64 (hwz _ (List.getElem_mem hjz))
       rw [hcell j hjz]
       rw [us_at _ j (by rw [hll]; exact hj)] at hu
       rw [← Option.some.inj hu]
       have e : zs.getD j 0 = zs[j] := by simp [List.getD, hjz]
       have e2 : ((zs.take len).map Int.toNat)[j]?.getD 0 = (zs[j]).toNat := by simp [hj, hjz]
       rw [e, e2]
       congr 2
       omega
theorem cells_zed : Tryz.prog.cellsOf 30 = 2 := by kernel_rfl
theorem cells_boolz : Tryz.prog.cellsOf 4 = 1 := by kernel_rfl
theorem cells_natz : Tryz.prog.cellsOf 28 = 1 := by kernel_rfl
section
variable {H : Type} {enc : TypeId × Value → H} {W : World}
theorem cells_ratq : Tryz.prog.cellsOf 32 = 3 := by kernel_rfl
theorem cells_i64q : Tryz.prog.cellsOf 2 = 1 := by kernel_rfl
theorem okWide_arr {P : Program} {w : World} {r : Reach} {t e : TypeId} {n b0 : Nat} {v : Value} (ht : P.underlying t = some (.array n e)) (h : Value.okWide P w r b0 t v) : ∃ cs, v = .agg cs ∧ cs.size = P.cellsOf t := by
 simp only [Value.okWide, ht] at h
 obtain ⟨cs, h1, h2, _⟩ := h
 exact ⟨cs, h1, h2⟩
set_option maxRecDepth 100000 in
theorem open_zed2c {fuel : Nat} {c0 c1 : Value} {x : DataW H × List MemPlace} (h : DataW.trod enc Tryz.prog W 0 (fun _ => true) true fuel 30 [c0, c1] = some x) (hlt : ∀ p ∈ x.2, p.block < W.heap.size) :
   ∃ b l, c0 = .bool b ∧ IsL W c1 l := by
 obtain ⟨xs, n, _, rfl, _, hlen, hg⟩ := DataW.trod_struct Tryz.underlying30 h
 match xs, hlen with
 | [y0, y1], _ =>
   have a0 : DataW.trod enc Tryz.prog W 0 (fun _ => true) true n 4 (([c0, c1].drop 0).take (Tryz.prog.cellsOf 4)) = some y0 := hg 0 _ rfl
   have a1 : DataW.trod enc Tryz.prog W 0 (fun _ => true) true n 28 (([c0, c1].drop 1).take (Tryz.prog.cellsOf 28)) = some y1 := hg 1 _ rfl
   rw [cells_boolz] at a0
   rw [cells_natz] at a1
   obtain ⟨b, e0, _⟩ := DataW.trod_bool Tryz.underlying4 a0
   simp at e0
   subst e0
   obtain ⟨l, hl⟩ := open_limbs_c Tryz.underlying28 a1 (fun p hp => hlt p (by simp [hp]))
   exact ⟨b, l, rfl, hl⟩
set_option maxRecDepth 100000 in
theorem open_rat3c {fuel : Nat} {c0 c1 c2 : Value} {x : DataW H × List MemPlace} (h : DataW.trod enc Tryz.prog W 0 (fun _ => true) true fuel 32 [c0, c1, c2] = some x) (hlt : ∀ p ∈ x.2, p.block < W.heap.size) :
   ∃ b lp lq, c0 = .bool b ∧ IsL W c1 lp ∧ IsL W c2 lq := by
 obtain ⟨xs, n, _, rfl, _, hlen, hg⟩ := DataW.trod_struct Tryz.underlying32 h
 match xs, hlen with
 | [y0, y1], _ =>
   have a0 : DataW.trod enc Tryz.prog W 0 (fun _ => true) true n 30 (([c0, c1, c2].drop 0).take (Tryz.prog.cellsOf 30)) = some y0 := hg 0 _ rfl
   have a1 : DataW.trod enc Tryz.prog W 0 (fun _ => true) true n 28 (([c0, c1, c2].drop 2).take (Tryz.prog.cellsOf 28)) = some y1 := hg 1 _ rfl
   rw [cells_zed] at a0
   rw [cells_natz] at a1
   obtain ⟨b, lp, rfl, hp⟩ := open_zed2c a0 (fun p hp => hlt p (by simp [hp]))
   obtain ⟨lq, hq⟩ := open_limbs_c Tryz.underlying28 a1 (fun p hp => hlt p (by simp [hp]))
   exact ⟨b, lp, lq, rfl, hp, hq⟩
def RawQ (w : World) (_s : Bool) (p q : Value) (lp lq : List Nat) : Prop := IsL w p lp ∧ IsL w q lq
end
end Go.Proofs.YtdnjdglekifhpaaGreat
namespace Go.Proofs.YtdnjdglekifhpaaGreat
open Go.ChangeShapes Go.WideShapes Go.ChangeAt Go.RowKit Go.Joins Go.Deep
def IsP (w : World) (v : Value) (ps : List (Int × Int)) : Prop := ∃ A c, v = .slice A ps.length c ∧ ps.length ≤ c ∧ c ≤ 9223372036854775807 ∧
 (0 < ps.length → ∃ ad, A = some ad ∧ ad.block < w.heap.size ∧ ∀ (i : Nat) (p : Int × Int), ps[i]? = some p → w.cell? (ad.add (i * 2)) = some (.int .i64 p.1) ∧ w.cell? ((ad.add (i * 2)).add 1) = some (.int .i64 p.2))
theorem IsP.below {w w' : World} {v : Value} {ps : List (Int × Int)} (h : IsP w v ps) (hb : Below w.heap.size w w') : IsP w' v ps := by
 obtain ⟨A, c, e, h1, h2, h3⟩ := h
 refine ⟨A, c, e, h1, h2, fun h0 => ?_⟩
 obtain ⟨ad, e2, hl, hc⟩ := h3 h0
 refine ⟨ad, e2, Nat.lt_of_lt_of_le hl hb.size, fun i p hp => ?_⟩
 obtain ⟨k1, k2⟩ := hc i p hp
 exact ⟨(hb.cell (by rw [block_of_add]; exact hl)).trans k1, (hb.cell (by rw [block_of_add, block_of_add]; exact hl)).trans k2⟩
theorem IsP.len {w : World} {v : Value} {ps : List (Int × Int)} (h : IsP w v ps) : ∃ A c, v = .slice A ps.length c := by
 obtain ⟨A, c, e, _⟩ := h; exact ⟨A, c, e⟩
section
variable {H : Type} {enc : TypeId × Value → H} {W : World}
theorem cells_pair : Tryz.prog.cellsOf 34 = 2 := by kernel_rfl
theorem cells_boolm : Tryz.prog.cellsOf 4 = 1 := by kernel_rfl
set_option maxRecDepth 100000 in
theorem open_pair {fuel : Nat} {x y : Value} {d : DataW H × List MemPlace} (h : DataW.trod enc Tryz.prog W 0 (fun _ => true) true fuel 34 [x, y] = some d) :
   ∃ p : Int × Int, x = .int .i64 p.1 ∧ y = .int .i64 p.2 ∧ I64 p.1 ∧ I64 p.2 := by
 obtain ⟨xs, m, _, hxp, _, hl, h1⟩ := DataW.trod_array Tryz.underlying34 h
 match xs, hl with
 | [y0, y1], _ =>
   have a0 : DataW.trod enc Tryz.prog W 0 (fun _ => true) true m 2 (([x, y].drop (0 * Tryz.prog.cellsOf 2)).take (Tryz.prog.cellsOf 2)) = some y0 := h1 0 (by omega)
   have a1 : DataW.trod enc Tryz.prog W 0 (fun _ => true) true m 2 (([x, y].drop (1 * Tryz.prog.cellsOf 2)).take (Tryz.prog.cellsOf 2)) = some y1 := h1 1 (by omega)
   rw [cells_i64q] at a0 a1
   obtain ⟨n, e1, _, w1⟩ := DataW.trod_int Tryz.underlying2 a0
   obtain ⟨n', e2, _, w2⟩ := DataW.trod_int Tryz.underlying2 a1
   simp at e1 e2
   subst e1 e2
   exact ⟨(n, n'), rfl, rfl, wf_I64 w1, wf_I64 w2⟩
end
end Go.Proofs.YtdnjdglekifhpaaGreat
namespace Go.Proofs.YtdnjdglekifhpaaGreat
open Go.RowKit
def Rk (w : World) (r : Nat) (f e : Int) : Prop := w.heap[r]? = some (.cells #[.int .i64 f, .int .i64 e] 185 (0, 0))
section
variable {w w' : World} {r : Nat} {f e : Int}
theorem Rk.lt (h : Rk w r f e) : r < w.heap.size := by
 rcases Nat.lt_or_ge r w.heap.size with hlt | hge
 · exact hlt
 · unfold Rk at h; rw [Array.getElem?_eq_none hge] at h; cases h
theorem Rk.below (h : Rk w r f e) (hb : Below w.heap.size w w') : Rk w' r f e := (hb.block r h.lt).trans h
theorem Rk.set_ (h : Rk w r f e) (x : Int) : Rk (w.setCell ⟨r, 1, none⟩ (.int .i64 x)) r f x := by
 unfold Rk at h ⊢
 simp [World.setCell, Array.getElem?_modify, h]
theorem Rk.alloc (h : Rk w r f e) (o : Obj) : Rk (w.alloc o) r f e := (Below.heap_alloc w o r h.lt).trans h
end
end Go.Proofs.YtdnjdglekifhpaaGreat
namespace Go.Proofs.YtdnjdglekifhpaaGreat
open Go.ChangeShapes Go.WideShapes Go.ChangeAt Go.RowKit Go.Joins
def AllIn (l : List Int) : Prop := ∀ i, In64 (iat l i)
theorem wf_i64 {n : Int} (h : (Lit.int .i64 n).wf = true) : In64 n := by
 have h1 : IntKind.i64.min = -9223372036854775808 := rfl
 have h2 : IntKind.i64.max = 9223372036854775807 := rfl
 simp only [Lit.wf, Bool.and_eq_true, decide_eq_true_eq] at h
 unfold In64
 omega
theorem AllIn.of_mem {l : List Int} (h : ∀ x ∈ l, In64 x) : AllIn l := by
 intro i
 by_cases hi : i < l.length
 · exact h _ (iat_mem hi)
 · unfold iat; rw [List.getElem?_eq_none (by omega)]; unfold In64; simp
theorem AllIn.mem {l : List Int} (h : AllIn l) {x : Int} (hx : x ∈ l) : In64 x := by
 obtain ⟨i, hi, rfl⟩ := List.getElem_of_mem hx
 have := h i
 unfold iat at this; rwa [List.getElem?_eq_getElem hi] at this
theorem AllIn.nil : AllIn [] := AllIn.of_mem (by simp)
section
variable {H : Type} {enc : TypeId × Value → H} {W : World}
def IsR (w : World) (v : Value) (A B C D : List Int) : Prop := ∃ a b c d, v = .agg #[a, b, c, d] ∧ IsI w a A ∧ IsI w b B ∧ IsI w c C ∧ IsI w d D
theorem IsR.below {w w' : World} {v : Value} {A B C D : List Int} (h : IsR w v A B C D) (hb : Below w.heap.size w w') : IsR w' v A B C D := by
 obtain ⟨a, b, c, d, e, h1, h2, h3, h4⟩ := h; exact ⟨a, b, c, d, e, h1.below hb, h2.below hb, h3.below hb, h4.below hb⟩
end
end Go.Proofs.YtdnjdglekifhpaaGreat
namespace Go.Proofs.YtdnjdglekifhpaaGreat
open Go.ChangeShapes Go.WideShapes Go.ChangeAt Go.RowKit Go.Joins Go.Deep
section
variable {H : Type} {enc : TypeId × Value → H} {W : World}
theorem cells_adamin : Tryz.prog.cellsOf 66 = 13 := by kernel_rfl
theorem cells_adamc : Tryz.prog.cellsOf 61 = 6 := by kernel_rfl
theorem cells_rowsc : Tryz.prog.cellsOf 64 = 4 := by kernel_rfl
theorem cells_sli64 : Tryz.prog.cellsOf 62 = 1 := by kernel_rfl
theorem cells_span : Tryz.prog.cellsOf 46 = 6 := by kernel_rfl
theorem cells_span2 : Tryz.prog.cellsOf 67 = 12 := by kernel_rfl
set_option maxRecDepth 100000 in
theorem open_i64n {t : TypeId} {fuel : Nat} {v : Value} {x : DataW H × List MemPlace} (ht : Tryz.prog.underlying t = some (.slice 2))
   (h : DataW.trod enc Tryz.prog W 0 (fun _ => true) true fuel t [v] = some x) (hlt : ∀ p ∈ x.2, p.block < W.heap.size) : ∃ l, IsI W v l ∧ AllIn l := by
 rcases open_ints ht Tryz.underlying2 (by kernel_rfl : Tryz.prog.cellsOf 2 = 1) h with ⟨hcs, hx⟩ | ⟨a, len, cap, zs, hcs, _, hl, hm, hzl, hx, hcell, hwz⟩
 · simp at hcs
   subst hcs
   exact ⟨[], IsI.nil W, AllIn.nil⟩
 · simp at hcs
   subst hcs
   subst hx
   simp only [if_true] at hzl
   unfold maxLen at hm
   have hll : (zs.take len).length = len := by simp; omega
   refine ⟨zs.take len, ⟨some a, cap, by rw [hll], by omega, by omega, ?_⟩, AllIn.of_mem (fun n hn => wf_i64 (hwz n (List.mem_of_mem_take hn)))⟩
   rw [hll]
   refine ⟨by rw [is_len, hll]; omega, fun h0 => ⟨a, rfl, ?_, fun j u hu => ?_⟩⟩
   · obtain ⟨b, off, spot⟩ := a
     have hspot : spot = none := by simpa [Addr.add] using World.cell?_spot (hcell 0 (by omega))
     subst hspot
     exact hlt (.cell b off) (MemPlace.mem_row.2 ⟨0, by omega, by simp⟩)
   · have hj : j < len := by
       rcases Nat.lt_or_ge j len with h' | h'
       · exact h'
       · rw [List.getElem?_eq_none (by rw [is_len, hll]; exact h')] at hu; cases hu
     have hjz : j < zs.length := by omega
     rw [hcell j hjz]
     rw [is_at _ j (by rw [hll]; exact hj)] at hu
     rw [← Option.some.inj hu]
     have e : zs.getD j 0 = zs[j] := by simp [List.getD, hjz]
     have e2 : iat (zs.take len) j = zs[j] := by simp [iat, hj, hjz]
     rw [e, e2]
set_option maxRecDepth 100000 in
theorem open_span6c {fuel : Nat} {c0 c1 c2 c3 c4 c5 : Value} {x : DataW H × List MemPlace} (h : DataW.trod enc Tryz.prog W 0 (fun _ => true) true fuel 46 [c0, c1, c2, c3, c4, c5] = some x) (hlt : ∀ p ∈ x.2, p.block < W.heap.size) :
   ∃ s1 s2 a1 b1 a2 b2, c0 = .bool s1 ∧ c3 = .bool s2 ∧ RawQ W s1 c1 c2 a1 b1 ∧ RawQ W s2 c4 c5 a2 b2 := by
 obtain ⟨xs, n, _, rfl, _, hlen, hg⟩ := DataW.trod_struct Tryz.underlying46 h
 match xs, hlen with
 | [y0, y1], _ =>
   have a0 : DataW.trod enc Tryz.prog W 0 (fun _ => true) true n 32 (([c0, c1, c2, c3, c4, c5].drop 0).take (Tryz.prog.cellsOf 32)) = some y0 := hg 0 _ rfl
   have a1 : DataW.trod enc Tryz.prog W 0 (fun _ => true) true n 32 (([c0, c1, c2, c3, c4, c5].drop 3).take (Tryz.prog.cellsOf 32)) = some y1 := hg 1 _ rfl
   rw [cells_ratq] at a0 a1
   obtain ⟨s1, A, B, rfl, hA, hB⟩ := open_rat3c a0 (fun p hp => hlt p (by simp [hp]))
   obtain ⟨s2, C, D, rfl, hC, hD⟩ := open_rat3c a1 (fun p hp => hlt p (by simp [hp]))
   exact ⟨s1, s2, A, B, C, D, rfl, rfl, ⟨hA, hB⟩, ⟨hC, hD⟩⟩
set_option maxRecDepth 100000 in
theorem open_span2 {base : Nat} {v : Value} {d : DataW H} {p : List MemPlace} (hv : Value.okWide Tryz.prog W .any base 67 v) (h : DataW.Trod enc Tryz.prog W 0 (fun _ => true) true 67 v d p)
   (hlt : ∀ x ∈ p, x.block < W.heap.size) : ∃ s1 p1 q1 s2 p2 q2 s3 p3 q3 s4 p4 q4 a1 b1 a2 b2 a3 b3 a4 b4, v = .agg #[.bool s1, p1, q1, .bool s2, p2, q2, .bool s3, p3, q3, .bool s4, p4, q4] ∧ RawQ W s1 p1 q1 a1 b1 ∧ RawQ W s2 p2 q2 a2 b2 ∧ RawQ W s3 p3 q3 a3 b3 ∧ RawQ W s4 p4 q4 a4 b4 := by
 obtain ⟨⟨l⟩, rfl, hsz⟩ := okWide_arr Tryz.underlying67 hv
 rw [cells_span2] at hsz
 match l, hsz with
 | [c0, c1, c2, c3, c4, c5, c6, c7, c8, c9, c10, c11], _ =>
   obtain ⟨fuel, hf⟩ := h
   obtain ⟨xs, m, _, hxp, _, hl, h1⟩ := DataW.trod_array Tryz.underlying67 hf
   match xs, hl with
   | [y0, y1], _ =>
     obtain ⟨rfl, rfl⟩ := Prod.mk.inj hxp
     have a0 : DataW.trod enc Tryz.prog W 0 (fun _ => true) true m 46 (([c0, c1, c2, c3, c4, c5, c6, c7, c8, c9, c10, c11].drop (0 * Tryz.prog.cellsOf 46)).take (Tryz.prog.cellsOf 46)) = some y0 := h1 0 (by omega)
     have a1 : DataW.trod enc Tryz.prog W 0 (fun _ => true) true m 46 (([c0, c1, c2, c3, c4, c5, c6, c7, c8, c9, c10, c11].drop (1 * Tryz.prog.cellsOf 46)).take (Tryz.prog.cellsOf 46)) = some y1 := h1 1 (by omega)
     rw [cells_span] at a0 a1
     obtain ⟨s1, s2, A1, B1, A2, B2, rfl, rfl, r1, r2⟩ := open_span6c (show DataW.trod enc Tryz.prog W 0 (fun _ => true) true m 46 [c0, c1, c2, c3, c4, c5] = some y0 from a0) (fun p hp => hlt p (by simp [hp]))
     obtain ⟨s3, s4, A3, B3, A4, B4, rfl, rfl, r3, r4⟩ := open_span6c (show DataW.trod enc Tryz.prog W 0 (fun _ => true) true m 46 [c6, c7, c8, c9, c10, c11] = some y1 from a1) (fun p hp => hlt p (by simp [hp]))
     exact ⟨s1, _, _, s2, _, _, s3, _, _, s4, _, _, A1, B1, A2, B2, A3, B3, A4, B4, rfl, r1, r2, r3, r4⟩
set_option maxRecDepth 100000 in
theorem open_adamin {base : Nat} {v : Value} {d : DataW H} {p : List MemPlace} (hv : Value.okWide Tryz.prog W .any base 66 v) (h : DataW.Trod enc Tryz.prog W 0 (fun _ => true) true 66 v d p)
   (hlt : ∀ x ∈ p, x.block < W.heap.size) :
   ∃ (lr b1 b2 eps wd : Int) (apart : Bool) (f p0 p1 : Int) (g0 g1 g2 g3 : Value) (l0 l1 l2 l3 : List Int), v = .agg #[.int .i64 lr, .int .i64 b1, .int .i64 b2, .int .i64 eps, .int .i64 wd, .bool apart, .int .i64 f, .int .i64 p0, .int .i64 p1, g0, g1, g2, g3] ∧ (In64 lr ∧ In64 b1 ∧ In64 b2 ∧ In64 eps ∧ In64 wd ∧ In64 f) ∧ (IsI W g0 l0 ∧ IsI W g1 l1 ∧ IsI W g2 l2 ∧ IsI W g3 l3) ∧ AllIn l0 := by
 obtain ⟨cs, rfl, hsz⟩ := okWide_struct Tryz.underlying66 hv
 obtain ⟨l⟩ := cs
 match l, hsz.trans cells_adamin with
 | [c0, c1, c2, c3, c4, c5, c6, c7, c8, c9, c10, c11, c12], _ =>
   obtain ⟨fuel, hf⟩ := h
   obtain ⟨xs, n, _, hx, _, hlen, hg⟩ := DataW.trod_struct Tryz.underlying66 hf
   match xs, hlen with
   | [y0, y1, y2, y3], _ =>
     obtain ⟨rfl, rfl⟩ := Prod.mk.inj hx
     have a0 : DataW.trod enc Tryz.prog W 0 (fun _ => true) true n 61 (([c0, c1, c2, c3, c4, c5, c6, c7, c8, c9, c10, c11, c12].drop 0).take (Tryz.prog.cellsOf 61)) = some y0 := hg 0 _ rfl
     have a1 : DataW.trod enc Tryz.prog W 0 (fun _ => true) true n 3 (([c0, c1, c2, c3, c4, c5, c6, c7, c8, c9, c10, c11, c12].drop 6).take (Tryz.prog.cellsOf 3)) = some y1 := hg 1 _ rfl
     have a2 : DataW.trod enc Tryz.prog W 0 (fun _ => true) true n 34 (([c0, c1, c2, c3, c4, c5, c6, c7, c8, c9, c10, c11, c12].drop 7).take (Tryz.prog.cellsOf 34)) = some y2 := hg 2 _ rfl
     have a3 : DataW.trod enc Tryz.prog W 0 (fun _ => true) true n 64 (([c0, c1, c2, c3, c4, c5, c6, c7, c8, c9, c10, c11, c12].drop 9).take (Tryz.prog.cellsOf 64)) = some y3 := hg 3 _ rfl
     rw [cells_adamc] at a0
     rw [cells_intk] at a1
     rw [cells_pair] at a2
     rw [cells_rowsc] at a3
     obtain ⟨f, e1, _, w1⟩ := DataW.trod_int Tryz.underlying3 a1
     obtain ⟨pq, hp0, hp1, _, _⟩ := open_pair (show DataW.trod enc Tryz.prog W 0 (fun _ => true) true n 34 [c7, c8] = some y2 from a2)
     obtain ⟨xs1, n1, _, _, _, hl1, hg1⟩ := DataW.trod_struct Tryz.underlying61 a0
     obtain ⟨xs2, n2, _, hx2, _, hl2, hg2⟩ := DataW.trod_struct Tryz.underlying64 a3
     match xs1, hl1, xs2, hl2 with
     | [u0, u1, u2, u3, u4, u5], _, [z0, z1, z2, z3], _ =>
       have m0 : DataW.trod enc Tryz.prog W 0 (fun _ => true) true n1 2 (([c0, c1, c2, c3, c4, c5].drop 0).take (Tryz.prog.cellsOf 2)) = some u0 := hg1 0 _ rfl
       have m1 : DataW.trod enc Tryz.prog W 0 (fun _ => true) true n1 2 (([c0, c1, c2, c3, c4, c5].drop 1).take (Tryz.prog.cellsOf 2)) = some u1 := hg1 1 _ rfl
       have m2 : DataW.trod enc Tryz.prog W 0 (fun _ => true) true n1 2 (([c0, c1, c2, c3, c4, c5].drop 2).take (Tryz.prog.cellsOf 2)) = some u2 := hg1 2 _ rfl
       have m3 : DataW.trod enc Tryz.prog W 0 (fun _ => true) true n1 2 (([c0, c1, c2, c3, c4, c5].drop 3).take (Tryz.prog.cellsOf 2)) = some u3 := hg1 3 _ rfl
       have m4 : DataW.trod enc Tryz.prog W 0 (fun _ => true) true n1 2 (([c0, c1, c2, c3, c4, c5].drop 4).take (Tryz.prog.cellsOf 2)) = some u4 := hg1 4 _ rfl
       have m5 : DataW.trod enc Tryz.prog W 0 (fun _ => true) true n1 4 (([c0, c1, c2, c3, c4, c5].drop 5).take (Tryz.prog.cellsOf 4)) = some u5 := hg1 5 _ rfl
       have k0 : DataW.trod enc Tryz.prog W 0 (fun _ => true) true n2 62 (([c9, c10, c11, c12].drop 0).take (Tryz.prog.cellsOf 62)) = some z0 := hg2 0 _ rfl
       have k1 : DataW.trod enc Tryz.prog W 0 (fun _ => true) true n2 62 (([c9, c10, c11, c12].drop 1).take (Tryz.prog.cellsOf 62)) = some z1 := hg2 1 _ rfl
       have k2 : DataW.trod enc Tryz.prog W 0 (fun _ => true) true n2 62 (([c9, c10, c11, c12].drop 2).take (Tryz.prog.cellsOf 62)) = some z2 := hg2 2 _ rfl
       have k3 : DataW.trod enc Tryz.prog W 0 (fun _ => true) true n2 62 (([c9, c10, c11, c12].drop 3).take (Tryz.prog.cellsOf 62)) = some z3 := hg2 3 _ rfl
       rw [cells_i64k] at m0 m1 m2 m3 m4
       rw [cells_boolm] at m5
       rw [cells_sli64] at k0 k1 k2 k3
       obtain ⟨lr, d0, _, v0⟩ := DataW.trod_int Tryz.underlying2 m0
       obtain ⟨b1, d1, _, v1⟩ := DataW.trod_int Tryz.underlying2 m1
       obtain ⟨b2, d2, _, v2⟩ := DataW.trod_int Tryz.underlying2 m2
       obtain ⟨eps, d3, _, v3⟩ := DataW.trod_int Tryz.underlying2 m3
       obtain ⟨wd, d4, _, v4⟩ := DataW.trod_int Tryz.underlying2 m4
       obtain ⟨ap, d5, _⟩ := DataW.trod_bool Tryz.underlying4 m5
       simp at e1 d0 d1 d2 d3 d4 d5
       subst e1 d0 d1 d2 d3 d4 d5 hp0 hp1
       have hy : y3.2 = [z0, z1, z2, z3].flatMap (·.2) := by rw [hx2]
       have hz : ∀ z ∈ [z0, z1, z2, z3], ∀ q ∈ z.2, q.block < W.heap.size := fun z hz q hq => hlt q (by
         simp only [List.mem_flatMap]
         exact ⟨y3, by simp, by rw [hy, List.mem_flatMap]; exact ⟨z, hz, hq⟩⟩)
       obtain ⟨l0, i0, j0⟩ := open_i64n Tryz.underlying62 (show DataW.trod enc Tryz.prog W 0 (fun _ => true) true n2 62 [c9] = some z0 from k0) (hz z0 (by simp))
       obtain ⟨l1, i1, _⟩ := open_i64n Tryz.underlying62 (show DataW.trod enc Tryz.prog W 0 (fun _ => true) true n2 62 [c10] = some z1 from k1) (hz z1 (by simp))
       obtain ⟨l2, i2, _⟩ := open_i64n Tryz.underlying62 (show DataW.trod enc Tryz.prog W 0 (fun _ => true) true n2 62 [c11] = some z2 from k2) (hz z2 (by simp))
       obtain ⟨l3, i3, _⟩ := open_i64n Tryz.underlying62 (show DataW.trod enc Tryz.prog W 0 (fun _ => true) true n2 62 [c12] = some z3 from k3) (hz z3 (by simp))
       exact ⟨lr, b1, b2, eps, wd, ap, f, pq.1, pq.2, c9, c10, c11, c12, l0, l1, l2, l3, rfl, ⟨wf_i64 v0, wf_i64 v1, wf_i64 v2, wf_i64 v3, wf_i64 v4, wf_i64 w1⟩, ⟨i0, i1, i2, i3⟩, j0⟩
end
end Go.Proofs.YtdnjdglekifhpaaGreat
namespace Go.Proofs.YtdnjdglekifhpaaGreat
open Go.ChangeShapes Go.WideShapes Go.ChangeAt Go.RowKit
set_option maxRecDepth 100000 in
theorem TrackIn_walk : LawWalk 6 Tryz.f6 := by
 intro W base args H enc ds p hval hA hlt hz
 rw [show Tryz.f6.params.toList = [66, 67, 3] from rfl] at hA hz
 obtain ⟨va, vb, vc, da, db, dc, pa, pb, pc, rfl, rfl, rfl, ha, hb, hc⟩ := trodAll_three hA
 obtain ⟨lr, b1, b2, eps, wd, apart, f, p0, p1, g0, g1, g2, g3, _, _, _, _, rfl, ⟨i1, i2, i3, i4, _, _⟩, _, _⟩ := open_adamin (hval 0 66 va rfl rfl) ha (fun x hx => hlt x (by simp [hx]))
 obtain ⟨s1, v1, u1, s2, v2, u2, s3, v3, u3, s4, v4, u4, l1, m1, l2, m2, l3, m3, l4, m4, rfl, ⟨h1, k1⟩, ⟨h2, k2⟩, ⟨h3, k3⟩, ⟨h4, k4⟩⟩ := open_span2 (hval 1 67 vb rfl rfl) hb (fun x hx => hlt x (by simp [hx]))
 obtain ⟨t, rfl, rfl, rfl, _⟩ := open_int Tryz.underlying3 (hval 2 3 vc rfl rfl) hc
 obtain ⟨A1, C1, rfl, _, _⟩ := id h1.frmL
 obtain ⟨D1, E1, rfl, _, _⟩ := id k1.frmL
 obtain ⟨A2, C2, rfl, _, _⟩ := id h2.frmL
 obtain ⟨D2, E2, rfl, _, _⟩ := id k2.frmL
 obtain ⟨A3, C3, rfl, _, _⟩ := id h3.frmL
 obtain ⟨D3, E3, rfl, _, _⟩ := id k3.frmL
 obtain ⟨A4, C4, rfl, _, _⟩ := id h4.frmL
 obtain ⟨D4, E4, rfl, _, _⟩ := id k4.frmL
 exact TrackIn_all lr b1 b2 eps wd apart f p0 p1 t g0 g1 g2 g3 s1 s2 s3 s4 A1 D1 A2 D2 A3 D3 A4 D4 C1 E1 C2 E2 C3 E3 C4 E4 l1 m1 l2 m2 l3 m3 l4 m4 W i1 i2 i3 i4 h1 k1 h2 k2 h3 k3 h4 k4
set_option maxRecDepth 100000 in
theorem TrackIn_holds : Rows.TrackInSaid :=
 OpenClaim.holds_of_wide 6 Tryz.f6 rfl rfl rfl rfl rfl rfl rfl ⟨rfl, rfl, rfl, rfl, rfl⟩ rfl rfl rfl rfl rfl (by kernel_rfl) Tryz.func6 (by kernel_rfl)
   (of_decide_eq_true (by kernel_rfl)) (by unfold Func.isWrapper; first | (rw [if_pos (by decide +kernel)]; kernel_rfl) | (rw [if_neg (by decide +kernel)]; exact ⟨rfl, rfl⟩))
   (fun os started H enc _ => law_lifted 6 Tryz.f6 Rows.trackInSpec Rows.trackInRow.domain rfl rfl rfl Tryz.func6 (by kernel_rfl) (by decide +kernel)
     (fun H ds h => by
       have h' : ds.length = 3 := h
       match ds, h' with
       | [_, _, _], _ => exact ⟨rfl, rfl, rfl⟩)
     (fun os _ H enc => ChangeSpec.witness6 (enc := enc) (C := Tryz.checked) false ⟨#[], #[.agg #[.int .i64 0, .int .i64 0, .int .i64 0, .int .i64 0, .int .i64 0, .bool false, .int .i64 0, .int .i64 0, .int .i64 0, .slice none 0 0, .slice none 0 0, .slice none 0 0, .slice none 0 0], .agg #[.bool false, .slice none 0 0, .slice none 0 0, .bool false, .slice none 0 0, .slice none 0 0, .bool false, .slice none 0 0, .slice none 0 0, .bool false, .slice none 0 0, .slice none 0 0], .int .i64 0], []⟩ 8 (by kernel_rfl) (by kernel_rfl) (by kernel_rfl) (by kernel_rfl))
     TrackIn_walk os started H enc)
end Go.Proofs.YtdnjdglekifhpaaGreat
