/- MOMENTUM: against the real velocities of the same gradients, from noughts on, kept velocities are never farther away than their bounds, step by step. No conditions: every input. -/
import Derived.Test.YtdnjdglekifhpaaGreatTdd
namespace Go.Proofs.YtdnjdglekifhpaaGreat
open Go.RowKit
attribute [local go_sem ↓] Go.wp_at_zero Go.wp_at_succ
theorem Blk.q10 {w : World} {G : Nat} {t : TypeId} {a b c d e f g h i j : Value} (hb : Blk w G t #[a, b, c, d, e, f, g, h, i, j]) : w.cell? ⟨G, 0, none⟩ = some a ∧ w.cell? ⟨G, 1, none⟩ = some b ∧ w.cell? ⟨G, 2, none⟩ = some c ∧ w.cell? ⟨G, 3, none⟩ = some d ∧ w.cell? ⟨G, 4, none⟩ = some e ∧ w.cell? ⟨G, 5, none⟩ = some f ∧ w.cell? ⟨G, 6, none⟩ = some g ∧ w.cell? ⟨G, 7, none⟩ = some h ∧ w.cell? ⟨G, 8, none⟩ = some i ∧ w.cell? ⟨G, 9, none⟩ = some j :=
 ⟨hb.cell 0, hb.cell 1, hb.cell 2, hb.cell 3, hb.cell 4, hb.cell 5, hb.cell 6, hb.cell 7, hb.cell 8, hb.cell 9⟩
set_option maxRecDepth 100000 in
set_option maxHeartbeats 8000000 in
theorem TrackMom_all (lr mu wd : Int) (nest : Bool) (f k z m o : Int) (G : Option Addr) (Gc : Nat) (ps : List (Int × Int)) (w : World) (ilr : In64 lr) (imu : In64 mu) (iwd : In64 wd) (hp : IsP w (.slice G ps.length Gc) ps) (hps : ∀ p ∈ ps, I64 p.1 ∧ I64 p.2) :
   Calls Tryz.prog 8 #[.agg #[.int .i64 lr, .int .i64 mu, .int .i64 wd, .bool nest, .int .i64 f, .int .i64 k, .int .i64 z, .int .i64 m, .int .i64 o, .slice G ps.length Gc]] w fun e w' => e = .returned (.bool true) ∧ Below w.heap.size w w' := by
 have hA := fun w => alive20_any w
 obtain ⟨g, hg⟩ : ∃ g, g = w.heap.size := ⟨_, rfl⟩
 obtain ⟨Y0, eY0, hIn, bY0⟩ := box1 w 82 #[.int .i64 lr, .int .i64 mu, .int .i64 wd, .bool nest, .int .i64 f, .int .i64 k, .int .i64 z, .int .i64 m, .int .i64 o, .slice G ps.length Gc]
 have zY0 : Y0.heap.size = g + 1 := by rw [eY0, World.size_alloc, ← hg]
 rw [← hg] at hIn
 have hB := bY0
 have hgw : w.heap.size ≤ g := by omega
 have EY := Lib.hid (And.intro hg eY0)
 clear hg eY0 zY0
 obtain ⟨c0, c1, c2, c3, c4, c5, c6, c7, c8, c9⟩ := hIn.q10
 go_enter Tryz.func8, Tryz.ntmps8
 go_upto_region 1 with fail
 rw [← EY.out.2, ← EY.out.1]
 replace hB := hB.drew
 replace hIn := hIn.drew
 clear c0 c1 c2 c3 c4 c5 c6 c7 c8 c9
 refine wp_region_noPanic ?_
 refine wp_region_held_drew (S := fun w' => w'.cell? ⟨g, 0, none⟩ = some (.int .i64 lr) ∧ w'.cell? ⟨g, 1, none⟩ = some (.int .i64 mu) ∧ w'.cell? ⟨g, 2, none⟩ = some (.int .i64 wd) ∧ w'.cell? ⟨g, 3, none⟩ = some (.bool nest) ∧ w'.cell? ⟨g, 4, none⟩ = some (.int .i64 f) ∧ w'.cell? ⟨g, 5, none⟩ = some (.int .i64 k) ∧ w'.cell? ⟨g, 6, none⟩ = some (.int .i64 z) ∧ w'.cell? ⟨g, 7, none⟩ = some (.int .i64 m) ∧ w'.cell? ⟨g, 8, none⟩ = some (.int .i64 o) ∧ w'.cell? ⟨g, 9, none⟩ = some (.slice G ps.length Gc)) (by kernel_rfl) ?_ (fun hHeld => ?_)
 · exact ⟨hIn.cell 0, hIn.cell 1, hIn.cell 2, hIn.cell 3, hIn.cell 4, hIn.cell 5, hIn.cell 6, hIn.cell 7, hIn.cell 8, hIn.cell 9⟩
 obtain ⟨wd1_1, hwd⟩ : ∃ q, q = Y0.drew := ⟨_, rfl⟩
 rw [← hwd] at hB hIn hHeld ⊢
 clear hwd
 refine tkH 0 rfl (v := ?v1) ?h1 ?r1
 case h1 => intro w hSw; (try dsimp only at hSw); go_simp; try (with_reducible rfl)
 refine tkH 1 rfl (v := ?v2) ?h2 ?r2
 case h2 => intro w hSw; (try dsimp only at hSw); go_simp; try (with_reducible rfl)
 refine tkH 2 rfl (v := ?v3) ?h3 ?r3
 case h3 => intro w hSw; (try dsimp only at hSw); go_simp; try (with_reducible rfl)
 refine tkH 3 rfl (v := ?v4) ?h4 ?r4
 case h4 => intro w hSw; (try dsimp only at hSw); go_simp; try (with_reducible rfl)
 try simp only [Act.put, lay1, lay2, lay3, lay4, lay5, lay6]
 refine wpAnyH_ready (rs := [4]) (by kernel_rfl) (by simp) (AllReadyH.cons rfl (fun K hK => ?_) AllReadyH.nil)
 obtain ⟨u1_1, eu, hMb, b1_1⟩ := box1 wd1_1 79 #[.int .i64 0, .int .i64 0, .int .i64 0, .bool false]
 obtain ⟨X3, en⟩ : ∃ X, X = wd1_1.heap.size := ⟨_, rfl⟩
 rw [← en] at hMb
 have lX3 : w.heap.size ≤ X3 := by rw [en]; exact hB.size
 have dX3_hIn : g ≠ X3 := by have := hIn.lt; omega
 have EUX3 := Lib.hid (And.intro eu en)
 clear eu en
 go_simp
 rw [← EUX3.out.1, ← EUX3.out.2]
 replace hIn := hIn.below b1_1 hIn.lt
 replace hB := hB.trans (b1_1.mono hB.size)
 refine hK.out _ _ ?_ (fun hHeld => ?_)
 · exact ⟨hIn.cell 0, hIn.cell 1, hIn.cell 2, hIn.cell 3, hIn.cell 4, hIn.cell 5, hIn.cell 6, hIn.cell 7, hIn.cell 8, hIn.cell 9⟩
 clear hK K
 try simp only [Act.put, lay1, lay2, lay3, lay4, lay5, lay6]
 refine wpAnyH_ready (rs := [5]) (by kernel_rfl) (by simp) (AllReadyH.cons rfl (fun K hK => ?_) AllReadyH.nil)
 obtain ⟨u1_2, eu, hf4, hk', hs⟩ := fillFour hMb (.int .i64 lr) (.int .i64 mu) (.int .i64 wd) (.bool nest) (by simp [noU])
 have xf := hMb.frozen
 have y0 := hMb.cell 0
 have y1 := hMb.cell 1
 have y2 := hMb.cell 2
 have y3 := hMb.cell 3
 go_simp
 rw [← eu]
 replace hIn := hf4.2.2.1 _ _ _ hIn (by omega)
 replace hB := hf4.2.2.2 _ _ (by omega) hB
 replace hMb := hf4.1
 clear eu hf4 hk' hs xf y0 y1 y2 y3
 refine hK.out _ _ ?_ (fun hHeld => ?_)
 · exact ⟨hIn.cell 0, hIn.cell 1, hIn.cell 2, hIn.cell 3, hIn.cell 4, hIn.cell 5, hIn.cell 6, hIn.cell 7, hIn.cell 8, hIn.cell 9⟩
 clear hK K
 refine tkH 6 rfl (v := ?v5) ?h5 ?r5
 case h5 => intro w hSw; (try dsimp only at hSw); go_simp; try (with_reducible rfl)
 try simp only [Act.put, lay1, lay2, lay3, lay4, lay5, lay6]
 try dsimp only
 try simp only [Act.put, lay1, lay2, lay3, lay4, lay5, lay6]
 refine wpAnyH_done (by kernel_rfl) ?_ _
 refine NoPanic.normal ?_
 skip
 obtain ⟨c10, c11, c12, c13, c14, c15, c16, c17, c18, c19⟩ := hIn.q10
 obtain ⟨c20, c21, c22, c23⟩ := hMb.q4
 go_upto_region 2 with fail
 by_cases h0 : f < 0
 · have e0 : decide (f < 0) = true := decide_eq_true h0
   replace hB := hB.drew
   replace hIn := hIn.drew
   replace hMb := hMb.drew
   clear c10 c11 c12 c13 c14 c15 c16 c17 c18 c19 c20 c21 c22 c23
   refine wp_region_noPanic ?_
   refine wp_region_held_drew (S := fun w' => w'.cell? ⟨X3, 0, none⟩ = some (.int .i64 lr) ∧ w'.cell? ⟨X3, 1, none⟩ = some (.int .i64 mu) ∧ w'.cell? ⟨X3, 2, none⟩ = some (.int .i64 wd) ∧ w'.cell? ⟨X3, 3, none⟩ = some (.bool nest) ∧ w'.cell? ⟨g, 0, none⟩ = some (.int .i64 lr) ∧ w'.cell? ⟨g, 1, none⟩ = some (.int .i64 mu) ∧ w'.cell? ⟨g, 2, none⟩ = some (.int .i64 wd) ∧ w'.cell? ⟨g, 3, none⟩ = some (.bool nest) ∧ w'.cell? ⟨g, 4, none⟩ = some (.int .i64 f) ∧ w'.cell? ⟨g, 5, none⟩ = some (.int .i64 k) ∧ w'.cell? ⟨g, 6, none⟩ = some (.int .i64 z) ∧ w'.cell? ⟨g, 7, none⟩ = some (.int .i64 m) ∧ w'.cell? ⟨g, 8, none⟩ = some (.int .i64 o) ∧ w'.cell? ⟨g, 9, none⟩ = some (.slice G ps.length Gc)) (by kernel_rfl) ?_ (fun hHeld => ?_)
   · exact ⟨hMb.cell 0, hMb.cell 1, hMb.cell 2, hMb.cell 3, hIn.cell 0, hIn.cell 1, hIn.cell 2, hIn.cell 3, hIn.cell 4, hIn.cell 5, hIn.cell 6, hIn.cell 7, hIn.cell 8, hIn.cell 9⟩
   obtain ⟨wd2_2, hwd⟩ : ∃ q, q = u1_2.drew := ⟨_, rfl⟩
   rw [← hwd] at hB hIn hMb hHeld ⊢
   clear hwd
   refine tkH 0 rfl (v := ?v6) ?h6 ?r6
   case h6 => intro w hSw; (try dsimp only at hSw); go_simp; try (with_reducible rfl)
   refine tkH 1 rfl (v := ?v7) ?h7 ?r7
   case h7 => intro w hSw; (try dsimp only at hSw); go_simp; try (with_reducible rfl)
   refine tkH 2 rfl (v := ?v8) ?h8 ?r8
   case h8 => intro w hSw; (try dsimp only at hSw); go_simp; try (with_reducible rfl)
   refine tkS 3 rfl ?_
   refine tkS 4 rfl ?_
   refine tkH 5 rfl (v := ?v11) ?h11 ?r11
   case h11 => intro w hSw; (try dsimp only at hSw); go_simp; try (with_reducible rfl)
   refine tkH 6 rfl (v := ?v12) ?h12 ?r12
   case h12 => intro w hSw; (try dsimp only at hSw); go_simp; try (with_reducible rfl)
   refine tkS 7 rfl ?_
   refine tkS 8 rfl ?_
   refine tkS 9 rfl ?_
   refine tkH 10 rfl (v := ?v16) ?h16 ?r16
   case h16 => intro w hSw; (try dsimp only at hSw); go_simp; try (with_reducible rfl)
   refine tkH 11 rfl (v := ?v17) ?h17 ?r17
   case h17 => intro w hSw; (try dsimp only at hSw); go_simp; try (with_reducible rfl)
   refine tkS 12 rfl ?_
   refine tkS 13 rfl ?_
   refine tkS 14 rfl ?_
   refine tkS 15 rfl ?_
   refine tkS 16 rfl ?_
   refine tkH 17 rfl (v := ?v23) ?h23 ?r23
   case h23 => intro w hSw; (try dsimp only at hSw); go_simp; try (with_reducible rfl)
   refine tkH 18 rfl (v := ?v24) ?h24 ?r24
   case h24 => intro w hSw; (try dsimp only at hSw); go_simp; try (with_reducible rfl)
   refine tkS 19 rfl ?_
   refine tkS 20 rfl ?_
   refine tkS 21 rfl ?_
   refine tkS 22 rfl ?_
   refine tkH 23 rfl (v := ?v29) ?h29 ?r29
   case h29 => intro w hSw; (try dsimp only at hSw); go_simp; try (with_reducible rfl)
   try simp only [Act.put, lay1, lay2, lay3, lay4, lay5, lay6]
   try dsimp only
   try simp only [Act.put, lay1, lay2, lay3, lay4, lay5, lay6]
   refine wpAnyH_done (by kernel_rfl) ?_ _
   refine NoPanic.normal ?_
   skip
   obtain ⟨c24, c25, c26, c27, c28, c29, c30, c31, c32, c33⟩ := hIn.q10
   obtain ⟨c34, c35, c36, c37⟩ := hMb.q4
   go_wp2_with fail
   refine (hA _).mono ?_
   rintro e w6 ⟨rfl, b6⟩
   replace hIn := hIn.below b6 hIn.lt
   replace hMb := hMb.below b6 hMb.lt
   replace hB := hB.trans (b6.mono hB.size)
   clear c24 c25 c26 c27 c28 c29 c30 c31 c32 c33 c34 c35 c36 c37
   obtain ⟨c38, c39, c40, c41, c42, c43, c44, c45, c46, c47⟩ := hIn.q10
   obtain ⟨c48, c49, c50, c51⟩ := hMb.q4
   go_wp2
   go_ret
   exact ⟨rfl, hB⟩
 have e0 : decide (f < 0) = false := decide_eq_false h0
 by_cases h1 : 40 < f
 · have e1 : decide (40 < f) = true := decide_eq_true h1
   replace hB := hB.drew
   replace hIn := hIn.drew
   replace hMb := hMb.drew
   clear c10 c11 c12 c13 c14 c15 c16 c17 c18 c19 c20 c21 c22 c23
   refine wp_region_noPanic ?_
   refine wp_region_held_drew (S := fun w' => w'.cell? ⟨X3, 0, none⟩ = some (.int .i64 lr) ∧ w'.cell? ⟨X3, 1, none⟩ = some (.int .i64 mu) ∧ w'.cell? ⟨X3, 2, none⟩ = some (.int .i64 wd) ∧ w'.cell? ⟨X3, 3, none⟩ = some (.bool nest) ∧ w'.cell? ⟨g, 0, none⟩ = some (.int .i64 lr) ∧ w'.cell? ⟨g, 1, none⟩ = some (.int .i64 mu) ∧ w'.cell? ⟨g, 2, none⟩ = some (.int .i64 wd) ∧ w'.cell? ⟨g, 3, none⟩ = some (.bool nest) ∧ w'.cell? ⟨g, 4, none⟩ = some (.int .i64 f) ∧ w'.cell? ⟨g, 5, none⟩ = some (.int .i64 k) ∧ w'.cell? ⟨g, 6, none⟩ = some (.int .i64 z) ∧ w'.cell? ⟨g, 7, none⟩ = some (.int .i64 m) ∧ w'.cell? ⟨g, 8, none⟩ = some (.int .i64 o) ∧ w'.cell? ⟨g, 9, none⟩ = some (.slice G ps.length Gc)) (by kernel_rfl) ?_ (fun hHeld => ?_)
   · exact ⟨hMb.cell 0, hMb.cell 1, hMb.cell 2, hMb.cell 3, hIn.cell 0, hIn.cell 1, hIn.cell 2, hIn.cell 3, hIn.cell 4, hIn.cell 5, hIn.cell 6, hIn.cell 7, hIn.cell 8, hIn.cell 9⟩
   obtain ⟨wd2_2, hwd⟩ : ∃ q, q = u1_2.drew := ⟨_, rfl⟩
   rw [← hwd] at hB hIn hMb hHeld ⊢
   clear hwd
   refine tkH 0 rfl (v := ?v30) ?h30 ?r30
   case h30 => intro w hSw; (try dsimp only at hSw); go_simp; try (with_reducible rfl)
   refine tkH 1 rfl (v := ?v31) ?h31 ?r31
   case h31 => intro w hSw; (try dsimp only at hSw); go_simp; try (with_reducible rfl)
   refine tkH 2 rfl (v := ?v32) ?h32 ?r32
   case h32 => intro w hSw; (try dsimp only at hSw); go_simp; try (with_reducible rfl)
   refine tkH 3 rfl (v := ?v33) ?h33 ?r33
   case h33 => intro w hSw; (try dsimp only at hSw); go_simp; try (with_reducible rfl)
   refine tkH 4 rfl (v := ?v34) ?h34 ?r34
   case h34 => intro w hSw; (try dsimp only at hSw); go_simp; try (with_reducible rfl)
   refine tkH 5 rfl (v := ?v35) ?h35 ?r35
   case h35 => intro w hSw; (try dsimp only at hSw); go_simp; try (with_reducible rfl)
   refine tkH 6 rfl (v := ?v36) ?h36 ?r36
   case h36 => intro w hSw; (try dsimp only at hSw); go_simp; try (with_reducible rfl)
   refine tkS 7 rfl ?_
   refine tkS 8 rfl ?_
   refine tkS 9 rfl ?_
   refine tkH 10 rfl (v := ?v40) ?h40 ?r40
   case h40 => intro w hSw; (try dsimp only at hSw); go_simp; try (with_reducible rfl)
   refine tkH 11 rfl (v := ?v41) ?h41 ?r41
   case h41 => intro w hSw; (try dsimp only at hSw); go_simp; try (with_reducible rfl)
   refine tkS 12 rfl ?_
   refine tkS 13 rfl ?_
   refine tkS 14 rfl ?_
   refine tkS 15 rfl ?_
   refine tkS 16 rfl ?_
   refine tkH 17 rfl (v := ?v47) ?h47 ?r47
   case h47 => intro w hSw; (try dsimp only at hSw); go_simp; try (with_reducible rfl)
   refine tkH 18 rfl (v := ?v48) ?h48 ?r48
   case h48 => intro w hSw; (try dsimp only at hSw); go_simp; try (with_reducible rfl)
   refine tkS 19 rfl ?_
   refine tkS 20 rfl ?_
   refine tkS 21 rfl ?_
   refine tkS 22 rfl ?_
   refine tkH 23 rfl (v := ?v53) ?h53 ?r53
   case h53 => intro w hSw; (try dsimp only at hSw); go_simp; try (with_reducible rfl)
   try simp only [Act.put, lay1, lay2, lay3, lay4, lay5, lay6]
   try dsimp only
   try simp only [Act.put, lay1, lay2, lay3, lay4, lay5, lay6]
   refine wpAnyH_done (by kernel_rfl) ?_ _
   refine NoPanic.normal ?_
   skip
   obtain ⟨c24, c25, c26, c27, c28, c29, c30, c31, c32, c33⟩ := hIn.q10
   obtain ⟨c34, c35, c36, c37⟩ := hMb.q4
   go_wp2_with fail
   refine (hA _).mono ?_
   rintro e w6 ⟨rfl, b6⟩
   replace hIn := hIn.below b6 hIn.lt
   replace hMb := hMb.below b6 hMb.lt
   replace hB := hB.trans (b6.mono hB.size)
   clear c24 c25 c26 c27 c28 c29 c30 c31 c32 c33 c34 c35 c36 c37
   obtain ⟨c38, c39, c40, c41, c42, c43, c44, c45, c46, c47⟩ := hIn.q10
   obtain ⟨c48, c49, c50, c51⟩ := hMb.q4
   go_wp2
   go_ret
   exact ⟨rfl, hB⟩
 have e1 : decide (40 < f) = false := decide_eq_false h1
 by_cases h2 : mu < 0
 · have e2 : decide (mu < 0) = true := decide_eq_true h2
   replace hB := hB.drew
   replace hIn := hIn.drew
   replace hMb := hMb.drew
   clear c10 c11 c12 c13 c14 c15 c16 c17 c18 c19 c20 c21 c22 c23
   refine wp_region_noPanic ?_
   refine wp_region_held_drew (S := fun w' => w'.cell? ⟨X3, 0, none⟩ = some (.int .i64 lr) ∧ w'.cell? ⟨X3, 1, none⟩ = some (.int .i64 mu) ∧ w'.cell? ⟨X3, 2, none⟩ = some (.int .i64 wd) ∧ w'.cell? ⟨X3, 3, none⟩ = some (.bool nest) ∧ w'.cell? ⟨g, 0, none⟩ = some (.int .i64 lr) ∧ w'.cell? ⟨g, 1, none⟩ = some (.int .i64 mu) ∧ w'.cell? ⟨g, 2, none⟩ = some (.int .i64 wd) ∧ w'.cell? ⟨g, 3, none⟩ = some (.bool nest) ∧ w'.cell? ⟨g, 4, none⟩ = some (.int .i64 f) ∧ w'.cell? ⟨g, 5, none⟩ = some (.int .i64 k) ∧ w'.cell? ⟨g, 6, none⟩ = some (.int .i64 z) ∧ w'.cell? ⟨g, 7, none⟩ = some (.int .i64 m) ∧ w'.cell? ⟨g, 8, none⟩ = some (.int .i64 o) ∧ w'.cell? ⟨g, 9, none⟩ = some (.slice G ps.length Gc)) (by kernel_rfl) ?_ (fun hHeld => ?_)
   · exact ⟨hMb.cell 0, hMb.cell 1, hMb.cell 2, hMb.cell 3, hIn.cell 0, hIn.cell 1, hIn.cell 2, hIn.cell 3, hIn.cell 4, hIn.cell 5, hIn.cell 6, hIn.cell 7, hIn.cell 8, hIn.cell 9⟩
   obtain ⟨wd2_2, hwd⟩ : ∃ q, q = u1_2.drew := ⟨_, rfl⟩
   rw [← hwd] at hB hIn hMb hHeld ⊢
   clear hwd
   refine tkH 0 rfl (v := ?v54) ?h54 ?r54
   case h54 => intro w hSw; (try dsimp only at hSw); go_simp; try (with_reducible rfl)
   refine tkH 1 rfl (v := ?v55) ?h55 ?r55
   case h55 => intro w hSw; (try dsimp only at hSw); go_simp; try (with_reducible rfl)
   refine tkH 2 rfl (v := ?v56) ?h56 ?r56
   case h56 => intro w hSw; (try dsimp only at hSw); go_simp; try (with_reducible rfl)
   refine tkH 3 rfl (v := ?v57) ?h57 ?r57
   case h57 => intro w hSw; (try dsimp only at hSw); go_simp; try (with_reducible rfl)
   refine tkH 4 rfl (v := ?v58) ?h58 ?r58
   case h58 => intro w hSw; (try dsimp only at hSw); go_simp; try (with_reducible rfl)
   refine tkH 5 rfl (v := ?v59) ?h59 ?r59
   case h59 => intro w hSw; (try dsimp only at hSw); go_simp; try (with_reducible rfl)
   refine tkH 6 rfl (v := ?v60) ?h60 ?r60
   case h60 => intro w hSw; (try dsimp only at hSw); go_simp; try (with_reducible rfl)
   refine tkH 7 rfl (v := ?v61) ?h61 ?r61
   case h61 => intro w hSw; (try dsimp only at hSw); go_simp; try (with_reducible rfl)
   refine tkH 8 rfl (v := ?v62) ?h62 ?r62
   case h62 => intro w hSw; (try dsimp only at hSw); go_simp; try (with_reducible rfl)
   refine tkH 9 rfl (v := ?v63) ?h63 ?r63
   case h63 => intro w hSw; (try dsimp only at hSw); go_simp; try (with_reducible rfl)
   refine tkH 10 rfl (v := ?v64) ?h64 ?r64
   case h64 => intro w hSw; (try dsimp only at hSw); go_simp; try (with_reducible rfl)
   refine tkH 11 rfl (v := ?v65) ?h65 ?r65
   case h65 => intro w hSw; (try dsimp only at hSw); go_simp; try (with_reducible rfl)
   refine tkS 12 rfl ?_
   refine tkS 13 rfl ?_
   refine tkS 14 rfl ?_
   refine tkS 15 rfl ?_
   refine tkS 16 rfl ?_
   refine tkH 17 rfl (v := ?v71) ?h71 ?r71
   case h71 => intro w hSw; (try dsimp only at hSw); go_simp; try (with_reducible rfl)
   refine tkH 18 rfl (v := ?v72) ?h72 ?r72
   case h72 => intro w hSw; (try dsimp only at hSw); go_simp; try (with_reducible rfl)
   refine tkS 19 rfl ?_
   refine tkS 20 rfl ?_
   refine tkS 21 rfl ?_
   refine tkS 22 rfl ?_
   refine tkH 23 rfl (v := ?v77) ?h77 ?r77
   case h77 => intro w hSw; (try dsimp only at hSw); go_simp; try (with_reducible rfl)
   try simp only [Act.put, lay1, lay2, lay3, lay4, lay5, lay6]
   try dsimp only
   try simp only [Act.put, lay1, lay2, lay3, lay4, lay5, lay6]
   refine wpAnyH_done (by kernel_rfl) ?_ _
   refine NoPanic.normal ?_
   skip
   obtain ⟨c24, c25, c26, c27, c28, c29, c30, c31, c32, c33⟩ := hIn.q10
   obtain ⟨c34, c35, c36, c37⟩ := hMb.q4
   go_wp2_with fail
   refine (hA _).mono ?_
   rintro e w6 ⟨rfl, b6⟩
   replace hIn := hIn.below b6 hIn.lt
   replace hMb := hMb.below b6 hMb.lt
   replace hB := hB.trans (b6.mono hB.size)
   clear c24 c25 c26 c27 c28 c29 c30 c31 c32 c33 c34 c35 c36 c37
   obtain ⟨c38, c39, c40, c41, c42, c43, c44, c45, c46, c47⟩ := hIn.q10
   obtain ⟨c48, c49, c50, c51⟩ := hMb.q4
   go_wp2
   go_ret
   exact ⟨rfl, hB⟩
 have e2 : decide (mu < 0) = false := decide_eq_false h2
 obtain ⟨n, rfl⟩ : ∃ n : Nat, f = (n : Int) := ⟨f.toNat, by omega⟩
 have hn : n ≤ 40 := by omega
 have hP : (2 : Nat) ^ n ≤ 2 ^ 40 := Nat.pow_le_pow_right (by omega) hn
 have hv := fun w h hl hm0 hm1 => velocities_any lr mu wd nest k z m o n G Gc ps w hn ilr imu iwd hm0 hm1 h hps hl
 obtain ⟨P, hPe⟩ : ∃ P : Nat, P = 2 ^ n := ⟨_, rfl⟩
 rw [← hPe] at hP hv
 have hPi : (2 : Int) ^ n = (P : Int) := by rw [hPe]; simp
 have hP2 : P ≤ 1099511627776 := by simpa using hP
 have w1 : IntKind.i64.wrap ((2 : Int) ^ n) = (P : Int) := by rw [hPi, IntKind.wrap_i64]; omega
 have w2 : IntKind.i64.wrap (1 * (2 : Int) ^ n) = (P : Int) := by rw [Int.one_mul]; exact w1
 clear hPe hPi
 by_cases h3 : (P : Int) ≤ mu
 · have e3 : decide ((P : Int) ≤ mu) = true := decide_eq_true h3
   clear hv
   replace hB := hB.drew
   replace hIn := hIn.drew
   replace hMb := hMb.drew
   clear c10 c11 c12 c13 c14 c15 c16 c17 c18 c19 c20 c21 c22 c23
   refine wp_region_noPanic ?_
   refine wp_region_held_drew (S := fun w' => w'.cell? ⟨X3, 0, none⟩ = some (.int .i64 lr) ∧ w'.cell? ⟨X3, 1, none⟩ = some (.int .i64 mu) ∧ w'.cell? ⟨X3, 2, none⟩ = some (.int .i64 wd) ∧ w'.cell? ⟨X3, 3, none⟩ = some (.bool nest) ∧ w'.cell? ⟨g, 0, none⟩ = some (.int .i64 lr) ∧ w'.cell? ⟨g, 1, none⟩ = some (.int .i64 mu) ∧ w'.cell? ⟨g, 2, none⟩ = some (.int .i64 wd) ∧ w'.cell? ⟨g, 3, none⟩ = some (.bool nest) ∧ w'.cell? ⟨g, 4, none⟩ = some (.int .i64 (n : Int)) ∧ w'.cell? ⟨g, 5, none⟩ = some (.int .i64 k) ∧ w'.cell? ⟨g, 6, none⟩ = some (.int .i64 z) ∧ w'.cell? ⟨g, 7, none⟩ = some (.int .i64 m) ∧ w'.cell? ⟨g, 8, none⟩ = some (.int .i64 o) ∧ w'.cell? ⟨g, 9, none⟩ = some (.slice G ps.length Gc)) (by kernel_rfl) ?_ (fun hHeld => ?_)
   · exact ⟨hMb.cell 0, hMb.cell 1, hMb.cell 2, hMb.cell 3, hIn.cell 0, hIn.cell 1, hIn.cell 2, hIn.cell 3, hIn.cell 4, hIn.cell 5, hIn.cell 6, hIn.cell 7, hIn.cell 8, hIn.cell 9⟩
   obtain ⟨wd2_2, hwd⟩ : ∃ q, q = u1_2.drew := ⟨_, rfl⟩
   rw [← hwd] at hB hIn hMb hHeld ⊢
   clear hwd
   refine tkH 0 rfl (v := ?v78) ?h78 ?r78
   case h78 => intro w hSw; (try dsimp only at hSw); go_simp; try (with_reducible rfl)
   refine tkH 1 rfl (v := ?v79) ?h79 ?r79
   case h79 => intro w hSw; (try dsimp only at hSw); go_simp; try (with_reducible rfl)
   refine tkH 2 rfl (v := ?v80) ?h80 ?r80
   case h80 => intro w hSw; (try dsimp only at hSw); go_simp; try (with_reducible rfl)
   refine tkH 3 rfl (v := ?v81) ?h81 ?r81
   case h81 => intro w hSw; (try dsimp only at hSw); go_simp; try (with_reducible rfl)
   refine tkH 4 rfl (v := ?v82) ?h82 ?r82
   case h82 => intro w hSw; (try dsimp only at hSw); go_simp; try (with_reducible rfl)
   refine tkH 5 rfl (v := ?v83) ?h83 ?r83
   case h83 => intro w hSw; (try dsimp only at hSw); go_simp; try (with_reducible rfl)
   refine tkH 6 rfl (v := ?v84) ?h84 ?r84
   case h84 => intro w hSw; (try dsimp only at hSw); go_simp; try (with_reducible rfl)
   refine tkH 7 rfl (v := ?v85) ?h85 ?r85
   case h85 => intro w hSw; (try dsimp only at hSw); go_simp; try (with_reducible rfl)
   refine tkH 8 rfl (v := ?v86) ?h86 ?r86
   case h86 => intro w hSw; (try dsimp only at hSw); go_simp; try (with_reducible rfl)
   refine tkH 9 rfl (v := ?v87) ?h87 ?r87
   case h87 => intro w hSw; (try dsimp only at hSw); go_simp; try (with_reducible rfl)
   refine tkH 10 rfl (v := ?v88) ?h88 ?r88
   case h88 => intro w hSw; (try dsimp only at hSw); go_simp; try (with_reducible rfl)
   refine tkH 11 rfl (v := ?v89) ?h89 ?r89
   case h89 => intro w hSw; (try dsimp only at hSw); go_simp; try (with_reducible rfl)
   refine tkH 12 rfl (v := ?v90) ?h90 ?r90
   case h90 => intro w hSw; (try dsimp only at hSw); go_simp; try (with_reducible rfl)
   refine tkH 13 rfl (v := ?v91) ?h91 ?r91
   case h91 => intro w hSw; (try dsimp only at hSw); go_simp; try (with_reducible rfl)
   refine tkH 14 rfl (v := ?v92) ?h92 ?r92
   case h92 => intro w hSw; (try dsimp only at hSw); go_simp; try (with_reducible rfl)
   refine tkH 15 rfl (v := ?v93) ?h93 ?r93
   case h93 => intro w hSw; (try dsimp only at hSw); go_simp; try (with_reducible rfl)
   refine tkH 16 rfl (v := ?v94) ?h94 ?r94
   case h94 => intro w hSw; (try dsimp only at hSw); go_simp; try (with_reducible rfl)
   refine tkH 17 rfl (v := ?v95) ?h95 ?r95
   case h95 => intro w hSw; (try dsimp only at hSw); go_simp; try (with_reducible rfl)
   refine tkH 18 rfl (v := ?v96) ?h96 ?r96
   case h96 => intro w hSw; (try dsimp only at hSw); go_simp; try (with_reducible rfl)
   refine tkS 19 rfl ?_
   refine tkS 20 rfl ?_
   refine tkS 21 rfl ?_
   refine tkS 22 rfl ?_
   refine tkH 23 rfl (v := ?v101) ?h101 ?r101
   case h101 => intro w hSw; (try dsimp only at hSw); go_simp; try (with_reducible rfl)
   try simp only [Act.put, lay1, lay2, lay3, lay4, lay5, lay6]
   try dsimp only
   try simp only [Act.put, lay1, lay2, lay3, lay4, lay5, lay6]
   refine wpAnyH_done (by kernel_rfl) ?_ _
   refine NoPanic.normal ?_
   skip
   obtain ⟨c24, c25, c26, c27, c28, c29, c30, c31, c32, c33⟩ := hIn.q10
   obtain ⟨c34, c35, c36, c37⟩ := hMb.q4
   go_wp2_with fail
   refine (hA _).mono ?_
   rintro e w6 ⟨rfl, b6⟩
   replace hIn := hIn.below b6 hIn.lt
   replace hMb := hMb.below b6 hMb.lt
   replace hB := hB.trans (b6.mono hB.size)
   clear c24 c25 c26 c27 c28 c29 c30 c31 c32 c33 c34 c35 c36 c37
   obtain ⟨c38, c39, c40, c41, c42, c43, c44, c45, c46, c47⟩ := hIn.q10
   obtain ⟨c48, c49, c50, c51⟩ := hMb.q4
   go_wp2
   go_ret
   exact ⟨rfl, hB⟩
 have e3 : decide ((P : Int) ≤ mu) = false := decide_eq_false h3
 by_cases h4 : 5 < ps.length
 · have e4 : decide ((5 : Int) < (ps.length : Int)) = true := decide_eq_true (by omega)
   have e5 : decide (5 < ps.length) = true := decide_eq_true h4
   clear hv
   replace hB := hB.drew
   replace hIn := hIn.drew
   replace hMb := hMb.drew
   clear c10 c11 c12 c13 c14 c15 c16 c17 c18 c19 c20 c21 c22 c23
   refine wp_region_noPanic ?_
   refine wp_region_held_drew (S := fun w' => w'.cell? ⟨X3, 0, none⟩ = some (.int .i64 lr) ∧ w'.cell? ⟨X3, 1, none⟩ = some (.int .i64 mu) ∧ w'.cell? ⟨X3, 2, none⟩ = some (.int .i64 wd) ∧ w'.cell? ⟨X3, 3, none⟩ = some (.bool nest) ∧ w'.cell? ⟨g, 0, none⟩ = some (.int .i64 lr) ∧ w'.cell? ⟨g, 1, none⟩ = some (.int .i64 mu) ∧ w'.cell? ⟨g, 2, none⟩ = some (.int .i64 wd) ∧ w'.cell? ⟨g, 3, none⟩ = some (.bool nest) ∧ w'.cell? ⟨g, 4, none⟩ = some (.int .i64 (n : Int)) ∧ w'.cell? ⟨g, 5, none⟩ = some (.int .i64 k) ∧ w'.cell? ⟨g, 6, none⟩ = some (.int .i64 z) ∧ w'.cell? ⟨g, 7, none⟩ = some (.int .i64 m) ∧ w'.cell? ⟨g, 8, none⟩ = some (.int .i64 o) ∧ w'.cell? ⟨g, 9, none⟩ = some (.slice G ps.length Gc)) (by kernel_rfl) ?_ (fun hHeld => ?_)
   · exact ⟨hMb.cell 0, hMb.cell 1, hMb.cell 2, hMb.cell 3, hIn.cell 0, hIn.cell 1, hIn.cell 2, hIn.cell 3, hIn.cell 4, hIn.cell 5, hIn.cell 6, hIn.cell 7, hIn.cell 8, hIn.cell 9⟩
   obtain ⟨wd2_2, hwd⟩ : ∃ q, q = u1_2.drew := ⟨_, rfl⟩
   rw [← hwd] at hB hIn hMb hHeld ⊢
   clear hwd
   refine tkH 0 rfl (v := ?v102) ?h102 ?r102
   case h102 => intro w hSw; (try dsimp only at hSw); go_simp; try (with_reducible rfl)
   refine tkH 1 rfl (v := ?v103) ?h103 ?r103
   case h103 => intro w hSw; (try dsimp only at hSw); go_simp; try (with_reducible rfl)
   refine tkH 2 rfl (v := ?v104) ?h104 ?r104
   case h104 => intro w hSw; (try dsimp only at hSw); go_simp; try (with_reducible rfl)
   refine tkH 3 rfl (v := ?v105) ?h105 ?r105
   case h105 => intro w hSw; (try dsimp only at hSw); go_simp; try (with_reducible rfl)
   refine tkH 4 rfl (v := ?v106) ?h106 ?r106
   case h106 => intro w hSw; (try dsimp only at hSw); go_simp; try (with_reducible rfl)
   refine tkH 5 rfl (v := ?v107) ?h107 ?r107
   case h107 => intro w hSw; (try dsimp only at hSw); go_simp; try (with_reducible rfl)
   refine tkH 6 rfl (v := ?v108) ?h108 ?r108
   case h108 => intro w hSw; (try dsimp only at hSw); go_simp; try (with_reducible rfl)
   refine tkH 7 rfl (v := ?v109) ?h109 ?r109
   case h109 => intro w hSw; (try dsimp only at hSw); go_simp; try (with_reducible rfl)
   refine tkH 8 rfl (v := ?v110) ?h110 ?r110
   case h110 => intro w hSw; (try dsimp only at hSw); go_simp; try (with_reducible rfl)
   refine tkH 9 rfl (v := ?v111) ?h111 ?r111
   case h111 => intro w hSw; (try dsimp only at hSw); go_simp; try (with_reducible rfl)
   refine tkH 10 rfl (v := ?v112) ?h112 ?r112
   case h112 => intro w hSw; (try dsimp only at hSw); go_simp; try (with_reducible rfl)
   refine tkH 11 rfl (v := ?v113) ?h113 ?r113
   case h113 => intro w hSw; (try dsimp only at hSw); go_simp; try (with_reducible rfl)
   refine tkH 12 rfl (v := ?v114) ?h114 ?r114
   case h114 => intro w hSw; (try dsimp only at hSw); go_simp; try (with_reducible rfl)
   refine tkH 13 rfl (v := ?v115) ?h115 ?r115
   case h115 => intro w hSw; (try dsimp only at hSw); go_simp; try (with_reducible rfl)
   refine tkH 14 rfl (v := ?v116) ?h116 ?r116
   case h116 => intro w hSw; (try dsimp only at hSw); go_simp; try (with_reducible rfl)
   refine tkH 15 rfl (v := ?v117) ?h117 ?r117
   case h117 => intro w hSw; (try dsimp only at hSw); go_simp; try (with_reducible rfl)
   refine tkH 16 rfl (v := ?v118) ?h118 ?r118
   case h118 => intro w hSw; (try dsimp only at hSw); go_simp; try (with_reducible rfl)
   refine tkH 17 rfl (v := ?v119) ?h119 ?r119
   case h119 => intro w hSw; (try dsimp only at hSw); go_simp; try (with_reducible rfl)
   refine tkH 18 rfl (v := ?v120) ?h120 ?r120
   case h120 => intro w hSw; (try dsimp only at hSw); go_simp; try (with_reducible rfl)
   refine tkH 19 rfl (v := ?v121) ?h121 ?r121
   case h121 => intro w hSw; (try dsimp only at hSw); go_simp; try (with_reducible rfl)
   refine tkH 20 rfl (v := ?v122) ?h122 ?r122
   case h122 => intro w hSw; (try dsimp only at hSw); go_simp; try (with_reducible rfl)
   refine tkH 21 rfl (v := ?v123) ?h123 ?r123
   case h123 => intro w hSw; (try dsimp only at hSw); go_simp; try (with_reducible rfl)
   refine tkH 22 rfl (v := ?v124) ?h124 ?r124
   case h124 => intro w hSw; (try dsimp only at hSw); go_simp; try (with_reducible rfl)
   refine tkH 23 rfl (v := ?v125) ?h125 ?r125
   case h125 => intro w hSw; (try dsimp only at hSw); go_simp; try (with_reducible rfl)
   try simp only [Act.put, lay1, lay2, lay3, lay4, lay5, lay6]
   try dsimp only
   try simp only [Act.put, lay1, lay2, lay3, lay4, lay5, lay6]
   refine wpAnyH_done (by kernel_rfl) ?_ _
   refine NoPanic.normal ?_
   skip
   obtain ⟨c24, c25, c26, c27, c28, c29, c30, c31, c32, c33⟩ := hIn.q10
   obtain ⟨c34, c35, c36, c37⟩ := hMb.q4
   go_wp2_with fail
   refine (hA _).mono ?_
   rintro e w6 ⟨rfl, b6⟩
   replace hIn := hIn.below b6 hIn.lt
   replace hMb := hMb.below b6 hMb.lt
   replace hB := hB.trans (b6.mono hB.size)
   clear c24 c25 c26 c27 c28 c29 c30 c31 c32 c33 c34 c35 c36 c37
   obtain ⟨c38, c39, c40, c41, c42, c43, c44, c45, c46, c47⟩ := hIn.q10
   obtain ⟨c48, c49, c50, c51⟩ := hMb.q4
   go_wp2
   go_ret
   exact ⟨rfl, hB⟩
 have e4 : decide ((5 : Int) < (ps.length : Int)) = false := decide_eq_false (by omega)
 have e5 : decide (5 < ps.length) = false := decide_eq_false h4
 replace hv := fun w h => hv w h (by omega) (by omega) (by omega)
 replace hB := hB.drew
 replace hIn := hIn.drew
 replace hMb := hMb.drew
 clear c10 c11 c12 c13 c14 c15 c16 c17 c18 c19 c20 c21 c22 c23
 refine wp_region_noPanic ?_
 refine wp_region_held_drew (S := fun w' => w'.cell? ⟨X3, 0, none⟩ = some (.int .i64 lr) ∧ w'.cell? ⟨X3, 1, none⟩ = some (.int .i64 mu) ∧ w'.cell? ⟨X3, 2, none⟩ = some (.int .i64 wd) ∧ w'.cell? ⟨X3, 3, none⟩ = some (.bool nest) ∧ w'.cell? ⟨g, 0, none⟩ = some (.int .i64 lr) ∧ w'.cell? ⟨g, 1, none⟩ = some (.int .i64 mu) ∧ w'.cell? ⟨g, 2, none⟩ = some (.int .i64 wd) ∧ w'.cell? ⟨g, 3, none⟩ = some (.bool nest) ∧ w'.cell? ⟨g, 4, none⟩ = some (.int .i64 (n : Int)) ∧ w'.cell? ⟨g, 5, none⟩ = some (.int .i64 k) ∧ w'.cell? ⟨g, 6, none⟩ = some (.int .i64 z) ∧ w'.cell? ⟨g, 7, none⟩ = some (.int .i64 m) ∧ w'.cell? ⟨g, 8, none⟩ = some (.int .i64 o) ∧ w'.cell? ⟨g, 9, none⟩ = some (.slice G ps.length Gc)) (by kernel_rfl) ?_ (fun hHeld => ?_)
 · exact ⟨hMb.cell 0, hMb.cell 1, hMb.cell 2, hMb.cell 3, hIn.cell 0, hIn.cell 1, hIn.cell 2, hIn.cell 3, hIn.cell 4, hIn.cell 5, hIn.cell 6, hIn.cell 7, hIn.cell 8, hIn.cell 9⟩
 obtain ⟨wd2_2, hwd⟩ : ∃ q, q = u1_2.drew := ⟨_, rfl⟩
 rw [← hwd] at hB hIn hMb hHeld ⊢
 clear hwd
 refine tkH 0 rfl (v := ?v126) ?h126 ?r126
 case h126 => intro w hSw; (try dsimp only at hSw); go_simp; try (with_reducible rfl)
 refine tkH 1 rfl (v := ?v127) ?h127 ?r127
 case h127 => intro w hSw; (try dsimp only at hSw); go_simp; try (with_reducible rfl)
 refine tkH 2 rfl (v := ?v128) ?h128 ?r128
 case h128 => intro w hSw; (try dsimp only at hSw); go_simp; try (with_reducible rfl)
 refine tkH 3 rfl (v := ?v129) ?h129 ?r129
 case h129 => intro w hSw; (try dsimp only at hSw); go_simp; try (with_reducible rfl)
 refine tkH 4 rfl (v := ?v130) ?h130 ?r130
 case h130 => intro w hSw; (try dsimp only at hSw); go_simp; try (with_reducible rfl)
 refine tkH 5 rfl (v := ?v131) ?h131 ?r131
 case h131 => intro w hSw; (try dsimp only at hSw); go_simp; try (with_reducible rfl)
 refine tkH 6 rfl (v := ?v132) ?h132 ?r132
 case h132 => intro w hSw; (try dsimp only at hSw); go_simp; try (with_reducible rfl)
 refine tkH 7 rfl (v := ?v133) ?h133 ?r133
 case h133 => intro w hSw; (try dsimp only at hSw); go_simp; try (with_reducible rfl)
 refine tkH 8 rfl (v := ?v134) ?h134 ?r134
 case h134 => intro w hSw; (try dsimp only at hSw); go_simp; try (with_reducible rfl)
 refine tkH 9 rfl (v := ?v135) ?h135 ?r135
 case h135 => intro w hSw; (try dsimp only at hSw); go_simp; try (with_reducible rfl)
 refine tkH 10 rfl (v := ?v136) ?h136 ?r136
 case h136 => intro w hSw; (try dsimp only at hSw); go_simp; try (with_reducible rfl)
 refine tkH 11 rfl (v := ?v137) ?h137 ?r137
 case h137 => intro w hSw; (try dsimp only at hSw); go_simp; try (with_reducible rfl)
 refine tkH 12 rfl (v := ?v138) ?h138 ?r138
 case h138 => intro w hSw; (try dsimp only at hSw); go_simp; try (with_reducible rfl)
 refine tkH 13 rfl (v := ?v139) ?h139 ?r139
 case h139 => intro w hSw; (try dsimp only at hSw); go_simp; try (with_reducible rfl)
 refine tkH 14 rfl (v := ?v140) ?h140 ?r140
 case h140 => intro w hSw; (try dsimp only at hSw); go_simp; try (with_reducible rfl)
 refine tkH 15 rfl (v := ?v141) ?h141 ?r141
 case h141 => intro w hSw; (try dsimp only at hSw); go_simp; try (with_reducible rfl)
 refine tkH 16 rfl (v := ?v142) ?h142 ?r142
 case h142 => intro w hSw; (try dsimp only at hSw); go_simp; try (with_reducible rfl)
 refine tkH 17 rfl (v := ?v143) ?h143 ?r143
 case h143 => intro w hSw; (try dsimp only at hSw); go_simp; try (with_reducible rfl)
 refine tkH 18 rfl (v := ?v144) ?h144 ?r144
 case h144 => intro w hSw; (try dsimp only at hSw); go_simp; try (with_reducible rfl)
 refine tkH 19 rfl (v := ?v145) ?h145 ?r145
 case h145 => intro w hSw; (try dsimp only at hSw); go_simp; try (with_reducible rfl)
 refine tkH 20 rfl (v := ?v146) ?h146 ?r146
 case h146 => intro w hSw; (try dsimp only at hSw); go_simp; try (with_reducible rfl)
 refine tkH 21 rfl (v := ?v147) ?h147 ?r147
 case h147 => intro w hSw; (try dsimp only at hSw); go_simp; try (with_reducible rfl)
 refine tkH 22 rfl (v := ?v148) ?h148 ?r148
 case h148 => intro w hSw; (try dsimp only at hSw); go_simp; try (with_reducible rfl)
 refine tkH 23 rfl (v := ?v149) ?h149 ?r149
 case h149 => intro w hSw; (try dsimp only at hSw); go_simp; try (with_reducible rfl)
 try simp only [Act.put, lay1, lay2, lay3, lay4, lay5, lay6]
 try dsimp only
 try simp only [Act.put, lay1, lay2, lay3, lay4, lay5, lay6]
 refine wpAnyH_done (by kernel_rfl) ?_ _
 refine NoPanic.normal ?_
 skip
 obtain ⟨c24, c25, c26, c27, c28, c29, c30, c31, c32, c33⟩ := hIn.q10
 obtain ⟨c34, c35, c36, c37⟩ := hMb.q4
 go_wp2_with fail
 refine (hA _).mono ?_
 rintro e w6 ⟨rfl, b6⟩
 replace hIn := hIn.below b6 hIn.lt
 replace hMb := hMb.below b6 hMb.lt
 replace hB := hB.trans (b6.mono hB.size)
 clear c24 c25 c26 c27 c28 c29 c30 c31 c32 c33 c34 c35 c36 c37
 obtain ⟨c38, c39, c40, c41, c42, c43, c44, c45, c46, c47⟩ := hIn.q10
 obtain ⟨c48, c49, c50, c51⟩ := hMb.q4
 go_wp2_with fail
 refine (hv _ (hp.below hB)).mono ?_
 rintro e w8 ⟨rfl, b8⟩
 replace hIn := hIn.below b8 hIn.lt
 replace hMb := hMb.below b8 hMb.lt
 replace hB := hB.trans (b8.mono hB.size)
 clear c38 c39 c40 c41 c42 c43 c44 c45 c46 c47 c48 c49 c50 c51
 obtain ⟨c52, c53, c54, c55, c56, c57, c58, c59, c60, c61⟩ := hIn.q10
 obtain ⟨c62, c63, c64, c65⟩ := hMb.q4
 go_wp2
 go_ret
 exact ⟨rfl, hB⟩
end Go.Proofs.YtdnjdglekifhpaaGreat
namespace Go.Proofs.YtdnjdglekifhpaaGreat
open Go.ChangeShapes Go.WideShapes Go.ChangeAt Go.RowKit
set_option maxRecDepth 100000 in
theorem TrackMom_walk : LawWalk 8 Tryz.f8 := by
 intro W base args H enc ds p hval hA hlt hz
 rw [show Tryz.f8.params.toList = [82] from rfl] at hA hz
 obtain ⟨va, da, rfl, rfl, ha⟩ := trodAll_one hA
 obtain ⟨lr, mu, wd, nest, f, k, z, m, o, g, ps, rfl, ⟨i1, i2, i3, _⟩, hp, hps⟩ := open_momin (hval 0 82 va rfl rfl) ha (fun x hx => hlt x (by simp [hx]))
 obtain ⟨G, Gc, rfl⟩ := id hp.len
 exact TrackMom_all lr mu wd nest f k z m o G Gc ps W i1 i2 i3 hp hps
set_option maxRecDepth 100000 in
theorem TrackMom_holds : Rows.TrackMomSaid :=
 OpenClaim.holds_of_wide 8 Tryz.f8 rfl rfl rfl rfl rfl rfl rfl ⟨rfl, rfl, rfl, rfl, rfl⟩ rfl rfl rfl rfl rfl (by kernel_rfl) Tryz.func8 (by kernel_rfl)
   (of_decide_eq_true (by kernel_rfl)) (by unfold Func.isWrapper; first | (rw [if_pos (by decide +kernel)]; kernel_rfl) | (rw [if_neg (by decide +kernel)]; exact ⟨rfl, rfl⟩))
   (fun os started H enc _ => law_lifted 8 Tryz.f8 Rows.trackMomSpec Rows.trackMomRow.domain rfl rfl rfl Tryz.func8 (by kernel_rfl) (by decide +kernel)
     (fun H ds h => by
       have h' : ds.length = 1 := h
       match ds, h' with
       | [_], _ => exact ⟨rfl, rfl, rfl⟩)
     (fun os _ H enc => ChangeSpec.witness6 (enc := enc) (C := Tryz.checked) false ⟨#[], #[.agg #[.int .i64 0, .int .i64 0, .int .i64 0, .bool false, .int .i64 0, .int .i64 0, .int .i64 0, .int .i64 0, .int .i64 0, .slice none 0 0]], []⟩ 8 (by kernel_rfl) (by kernel_rfl) (by kernel_rfl) (by kernel_rfl))
     TrackMom_walk os started H enc)
end Go.Proofs.YtdnjdglekifhpaaGreat
