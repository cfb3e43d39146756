/- Bounds of what is kept, a bound a step on, and a number with what is so near, are as the document says. No conditions: every input. -/
import Derived.Test.YtdnjdglekifhpaaGreatTad
namespace Go.Proofs.YtdnjdglekifhpaaGreat
open Go.RowKit
attribute [local go_sem ↓] Go.wp_at_zero Go.wp_at_succ
theorem few_facts20 {bs : List Bk} (h : fewS bs = true) : FewB bs := by
 unfold fewS at h
 rw [Bool.and_eq_true, decide_eq_true_eq, decide_eq_true_eq] at h
 exact ⟨by omega, fun b hb => by have := lenS_mem hb; omega⟩
theorem right_load20 {s : St} (h : rightS s = true) (hin : ∀ b ∈ s.2.2.2.2.2, BkIn b) : ∀ b ∈ s.2.2.2.2.2, LoadB b := by
 obtain ⟨k, z, m, o, n, bs⟩ := s
 intro b hb
 simp only [rightS, Bool.and_eq_true] at h hb
 obtain ⟨i, hi⟩ := List.getElem?_of_mem hb
 have hlt := (List.getElem?_eq_some_iff.1 hi).1
 have hok := h.2.2
 unfold okTo at hok
 have := List.all_eq_true.1 hok i (List.mem_range.2 hlt)
 rw [hi] at this
 unfold okAt at this
 simp only [Option.getD_some, Bool.and_eq_true] at this
 have hr := this.1
 have hI := (hin b hb).2.1
 obtain ⟨k1, s1, cs, wd⟩ := b
 unfold bkR at hr
 simp only at hr hI
 by_cases h4 : k1 = 4
 · exact .inl h4
 · unfold blkR at hr
   rw [if_neg h4] at hr
   simp only [Bool.and_eq_true, decide_eq_true_eq] at hr
   unfold I64 at hI
   exact .inr ⟨hr.2.1.1, hr.2.1.2, hr.2.2.2.1, hI.2⟩
set_option maxRecDepth 100000 in
set_option maxHeartbeats 8000000 in
theorem TrackTells_u1 (k z m o n : Int) (A : Option Addr) (C : Nat) (bs : List Bk) (s1 s2 : Bool) (A1 D1 A2 D2 : Option Addr) (C1 E1 C2 E2 : Nat) (l1 m1 l2 m2 : List Nat) (beta f : Int) (w : World) (hs : IsSt w (.agg #[.int .i64 k, .int .i64 z, .int .i64 m, .int .i64 o, .int .i64 n, .slice A bs.length C]) (k, z, m, o, n, bs)) (hin : ∀ b ∈ bs, BkIn b) (r1 : RawQ w s1 (.slice A1 l1.length C1) (.slice D1 m1.length E1) l1 m1) (r2 : RawQ w s2 (.slice A2 l2.length C2) (.slice D2 m2.length E2) l2 m2) (_hb : In64 beta) (hf : fewS bs = false) :
   Calls Tryz.prog 3 #[.agg #[.int .i64 k, .int .i64 z, .int .i64 m, .int .i64 o, .int .i64 n, .slice A bs.length C], .agg #[.bool s1, .slice A1 l1.length C1, .slice D1 m1.length E1, .bool s2, .slice A2 l2.length C2, .slice D2 m2.length E2], .agg #[.int .i64 beta, .int .i64 f]] w fun e w' => e = .returned (.bool true) ∧ Below w.heap.size w w' := by
 have hA := fun w => alive20_any w
 have hF := fun w h => rfew14_any (.agg #[.int .i64 k, .int .i64 z, .int .i64 m, .int .i64 o, .int .i64 n, .slice A bs.length C]) (k, z, m, o, n, bs) w h hin
 simp only at hF
 obtain ⟨p1, t1⟩ := r1
 obtain ⟨p2, t2⟩ := r2
 have hF1 := fun w h1 h2 => rfew5_any s1 (.slice A1 l1.length C1) (.slice D1 m1.length E1) l1 m1 3 w h1 h2 (by omega)
 have hF2 := fun w h1 h2 => rfew5_any s2 (.slice A2 l2.length C2) (.slice D2 m2.length E2) l2 m2 3 w h1 h2 (by omega)
 rw [hf] at hF
 clear _hb hin
 obtain ⟨g, hg⟩ : ∃ g, g = w.heap.size := ⟨_, rfl⟩
 obtain ⟨Y0, eY0, hS, bY0⟩ := box1 w 26 #[.int .i64 k, .int .i64 z, .int .i64 m, .int .i64 o, .int .i64 n, .slice A bs.length C]
 have zY0 : Y0.heap.size = g + 1 := by rw [eY0, World.size_alloc, ← hg]
 rw [← hg] at hS
 replace hs := hs.below bY0
 replace p1 := p1.below bY0
 replace t1 := t1.below bY0
 replace p2 := p2.below bY0
 replace t2 := t2.below bY0
 have hB := bY0
 obtain ⟨Y1, eY1, hL, bY1⟩ := box1 Y0 33 #[.bool s1, .slice A1 l1.length C1, .slice D1 m1.length E1, .bool s2, .slice A2 l2.length C2, .slice D2 m2.length E2]
 have zY1 : Y1.heap.size = g + 1 + 1 := by rw [eY1, World.size_alloc, zY0]
 rw [zY0] at hL
 replace hS := hS.below bY1 hS.lt
 replace hs := hs.below bY1
 replace p1 := p1.below bY1
 replace t1 := t1.below bY1
 replace p2 := p2.below bY1
 replace t2 := t2.below bY1
 replace hB := hB.trans (bY1.mono hB.size)
 obtain ⟨Y2, eY2, hW, bY2⟩ := box1 Y1 34 #[.int .i64 beta, .int .i64 f]
 have zY2 : Y2.heap.size = g + 1 + 1 + 1 := by rw [eY2, World.size_alloc, zY1]
 rw [zY1] at hW
 replace hS := hS.below bY2 hS.lt
 replace hL := hL.below bY2 hL.lt
 replace hs := hs.below bY2
 replace p1 := p1.below bY2
 replace t1 := t1.below bY2
 replace p2 := p2.below bY2
 replace t2 := t2.below bY2
 replace hB := hB.trans (bY2.mono hB.size)
 have hgw : w.heap.size ≤ g := by omega
 have EY := Lib.hid (And.intro hg (And.intro eY0 (And.intro eY1 eY2)))
 clear hg eY0 zY0 eY1 zY1 eY2 zY2
 obtain ⟨c0, c1, c2, c3, c4, c5⟩ := hS.q6
 obtain ⟨c6, c7, c8, c9, c10, c11⟩ := hL.q6
 obtain ⟨c12, c13⟩ := hW.q2
 go_enter Tryz.func3, Tryz.ntmps3
 go_upto_region 1 with fail
 rw [← EY.out.2.1, ← EY.out.2.2.1, ← EY.out.2.2.2, ← EY.out.1]
 replace hB := hB.drew
 replace hs := hs.below (bdrew _)
 replace p1 := p1.below (bdrew _)
 replace t1 := t1.below (bdrew _)
 replace p2 := p2.below (bdrew _)
 replace t2 := t2.below (bdrew _)
 replace hS := hS.drew
 replace hL := hL.drew
 replace hW := hW.drew
 clear c0 c1 c2 c3 c4 c5 c6 c7 c8 c9 c10 c11 c12 c13
 refine wp_region_noPanic ?_
 refine wp_region_held_drew (S := fun w' => w'.cell? ⟨g + 1 + 1, 0, none⟩ = some (.int .i64 beta) ∧ w'.cell? ⟨g + 1 + 1, 1, none⟩ = some (.int .i64 f)) (by kernel_rfl) ?_ (fun hHeld => ?_)
 · exact ⟨hW.cell 0, hW.cell 1⟩
 obtain ⟨wd1_1, hwd⟩ : ∃ q, q = Y2.drew := ⟨_, rfl⟩
 rw [← hwd] at hB hs p1 t1 p2 t2 hS hL hW hHeld ⊢
 clear hwd
 refine tkH 0 rfl (v := ?v1) ?h1 ?r1
 case h1 => intro w hSw; (try dsimp only at hSw); go_simp; try (with_reducible rfl)
 refine tkH 1 rfl (v := ?v2) ?h2 ?r2
 case h2 => intro w hSw; (try dsimp only at hSw); go_simp; try (with_reducible rfl)
 refine tkH 2 rfl (v := ?v3) ?h3 ?r3
 case h3 => intro w hSw; (try dsimp only at hSw); go_simp; try (with_reducible rfl)
 refine tkH 3 rfl (v := ?v4) ?h4 ?r4
 case h4 => intro w hSw; (try dsimp only at hSw); go_simp; try (with_reducible rfl)
 refine tkH 4 rfl (v := ?v5) ?h5 ?r5
 case h5 => intro w hSw; (try dsimp only at hSw); go_simp; try (with_reducible rfl)
 refine tkH 5 rfl (v := ?v6) ?h6 ?r6
 case h6 => intro w hSw; (try dsimp only at hSw); go_simp; try (with_reducible rfl)
 try simp only [Act.put, lay1, lay2, lay3, lay4, lay5, lay6]
 try dsimp only
 try simp only [Act.put, lay1, lay2, lay3, lay4, lay5, lay6]
 refine wpAnyH_done (by kernel_rfl) ?_ _
 refine NoPanic.normal ?_
 skip
 obtain ⟨c14, c15, c16, c17, c18, c19⟩ := hS.q6
 obtain ⟨c20, c21, c22, c23, c24, c25⟩ := hL.q6
 obtain ⟨c26, c27⟩ := hW.q2
 go_wp2_with fail
 refine (hF _ hs).mono ?_
 rintro e w4 ⟨rfl, b4⟩
 replace hs := hs.below b4
 replace p1 := p1.below b4
 replace t1 := t1.below b4
 replace p2 := p2.below b4
 replace t2 := t2.below b4
 replace hS := hS.below b4 hS.lt
 replace hL := hL.below b4 hL.lt
 replace hW := hW.below b4 hW.lt
 replace hB := hB.trans (b4.mono hB.size)
 clear c14 c15 c16 c17 c18 c19 c20 c21 c22 c23 c24 c25 c26 c27
 obtain ⟨c28, c29, c30, c31, c32, c33⟩ := hS.q6
 obtain ⟨c34, c35, c36, c37, c38, c39⟩ := hL.q6
 obtain ⟨c40, c41⟩ := hW.q2
 go_wp2_with fail
 refine (hA _).mono ?_
 rintro e w6 ⟨rfl, b6⟩
 replace hs := hs.below b6
 replace p1 := p1.below b6
 replace t1 := t1.below b6
 replace p2 := p2.below b6
 replace t2 := t2.below b6
 replace hS := hS.below b6 hS.lt
 replace hL := hL.below b6 hL.lt
 replace hW := hW.below b6 hW.lt
 replace hB := hB.trans (b6.mono hB.size)
 clear c28 c29 c30 c31 c32 c33 c34 c35 c36 c37 c38 c39 c40 c41
 obtain ⟨c42, c43, c44, c45, c46, c47⟩ := hS.q6
 obtain ⟨c48, c49, c50, c51, c52, c53⟩ := hL.q6
 obtain ⟨c54, c55⟩ := hW.q2
 go_wp2
 go_ret
 exact ⟨rfl, hB⟩
set_option maxRecDepth 100000 in
set_option maxHeartbeats 8000000 in
theorem TrackTells_u2 (k z m o n : Int) (A : Option Addr) (C : Nat) (bs : List Bk) (s1 s2 : Bool) (A1 D1 A2 D2 : Option Addr) (C1 E1 C2 E2 : Nat) (l1 m1 l2 m2 : List Nat) (beta f : Int) (w : World) (hs : IsSt w (.agg #[.int .i64 k, .int .i64 z, .int .i64 m, .int .i64 o, .int .i64 n, .slice A bs.length C]) (k, z, m, o, n, bs)) (hin : ∀ b ∈ bs, BkIn b) (r1 : RawQ w s1 (.slice A1 l1.length C1) (.slice D1 m1.length E1) l1 m1) (r2 : RawQ w s2 (.slice A2 l2.length C2) (.slice D2 m2.length E2) l2 m2) (_hb : In64 beta) (hf : fewS bs = true) (hf1 : fewQ s1 l1 m1 3 = false) :
   Calls Tryz.prog 3 #[.agg #[.int .i64 k, .int .i64 z, .int .i64 m, .int .i64 o, .int .i64 n, .slice A bs.length C], .agg #[.bool s1, .slice A1 l1.length C1, .slice D1 m1.length E1, .bool s2, .slice A2 l2.length C2, .slice D2 m2.length E2], .agg #[.int .i64 beta, .int .i64 f]] w fun e w' => e = .returned (.bool true) ∧ Below w.heap.size w w' := by
 have hA := fun w => alive20_any w
 have hF := fun w h => rfew14_any (.agg #[.int .i64 k, .int .i64 z, .int .i64 m, .int .i64 o, .int .i64 n, .slice A bs.length C]) (k, z, m, o, n, bs) w h hin
 simp only at hF
 obtain ⟨p1, t1⟩ := r1
 obtain ⟨p2, t2⟩ := r2
 have hF1 := fun w h1 h2 => rfew5_any s1 (.slice A1 l1.length C1) (.slice D1 m1.length E1) l1 m1 3 w h1 h2 (by omega)
 have hF2 := fun w h1 h2 => rfew5_any s2 (.slice A2 l2.length C2) (.slice D2 m2.length E2) l2 m2 3 w h1 h2 (by omega)
 rw [hf] at hF
 rw [hf1] at hF1
 clear _hb hin
 obtain ⟨g, hg⟩ : ∃ g, g = w.heap.size := ⟨_, rfl⟩
 obtain ⟨Y0, eY0, hS, bY0⟩ := box1 w 26 #[.int .i64 k, .int .i64 z, .int .i64 m, .int .i64 o, .int .i64 n, .slice A bs.length C]
 have zY0 : Y0.heap.size = g + 1 := by rw [eY0, World.size_alloc, ← hg]
 rw [← hg] at hS
 replace hs := hs.below bY0
 replace p1 := p1.below bY0
 replace t1 := t1.below bY0
 replace p2 := p2.below bY0
 replace t2 := t2.below bY0
 have hB := bY0
 obtain ⟨Y1, eY1, hL, bY1⟩ := box1 Y0 33 #[.bool s1, .slice A1 l1.length C1, .slice D1 m1.length E1, .bool s2, .slice A2 l2.length C2, .slice D2 m2.length E2]
 have zY1 : Y1.heap.size = g + 1 + 1 := by rw [eY1, World.size_alloc, zY0]
 rw [zY0] at hL
 replace hS := hS.below bY1 hS.lt
 replace hs := hs.below bY1
 replace p1 := p1.below bY1
 replace t1 := t1.below bY1
 replace p2 := p2.below bY1
 replace t2 := t2.below bY1
 replace hB := hB.trans (bY1.mono hB.size)
 obtain ⟨Y2, eY2, hW, bY2⟩ := box1 Y1 34 #[.int .i64 beta, .int .i64 f]
 have zY2 : Y2.heap.size = g + 1 + 1 + 1 := by rw [eY2, World.size_alloc, zY1]
 rw [zY1] at hW
 replace hS := hS.below bY2 hS.lt
 replace hL := hL.below bY2 hL.lt
 replace hs := hs.below bY2
 replace p1 := p1.below bY2
 replace t1 := t1.below bY2
 replace p2 := p2.below bY2
 replace t2 := t2.below bY2
 replace hB := hB.trans (bY2.mono hB.size)
 have hgw : w.heap.size ≤ g := by omega
 have EY := Lib.hid (And.intro hg (And.intro eY0 (And.intro eY1 eY2)))
 clear hg eY0 zY0 eY1 zY1 eY2 zY2
 obtain ⟨c0, c1, c2, c3, c4, c5⟩ := hS.q6
 obtain ⟨c6, c7, c8, c9, c10, c11⟩ := hL.q6
 obtain ⟨c12, c13⟩ := hW.q2
 go_enter Tryz.func3, Tryz.ntmps3
 go_upto_region 1 with fail
 rw [← EY.out.2.1, ← EY.out.2.2.1, ← EY.out.2.2.2, ← EY.out.1]
 replace hB := hB.drew
 replace hs := hs.below (bdrew _)
 replace p1 := p1.below (bdrew _)
 replace t1 := t1.below (bdrew _)
 replace p2 := p2.below (bdrew _)
 replace t2 := t2.below (bdrew _)
 replace hS := hS.drew
 replace hL := hL.drew
 replace hW := hW.drew
 clear c0 c1 c2 c3 c4 c5 c6 c7 c8 c9 c10 c11 c12 c13
 refine wp_region_noPanic ?_
 refine wp_region_held_drew (S := fun w' => w'.cell? ⟨g + 1 + 1, 0, none⟩ = some (.int .i64 beta) ∧ w'.cell? ⟨g + 1 + 1, 1, none⟩ = some (.int .i64 f)) (by kernel_rfl) ?_ (fun hHeld => ?_)
 · exact ⟨hW.cell 0, hW.cell 1⟩
 obtain ⟨wd1_1, hwd⟩ : ∃ q, q = Y2.drew := ⟨_, rfl⟩
 rw [← hwd] at hB hs p1 t1 p2 t2 hS hL hW hHeld ⊢
 clear hwd
 refine tkH 0 rfl (v := ?v7) ?h7 ?r7
 case h7 => intro w hSw; (try dsimp only at hSw); go_simp; try (with_reducible rfl)
 refine tkH 1 rfl (v := ?v8) ?h8 ?r8
 case h8 => intro w hSw; (try dsimp only at hSw); go_simp; try (with_reducible rfl)
 refine tkH 2 rfl (v := ?v9) ?h9 ?r9
 case h9 => intro w hSw; (try dsimp only at hSw); go_simp; try (with_reducible rfl)
 refine tkH 3 rfl (v := ?v10) ?h10 ?r10
 case h10 => intro w hSw; (try dsimp only at hSw); go_simp; try (with_reducible rfl)
 refine tkH 4 rfl (v := ?v11) ?h11 ?r11
 case h11 => intro w hSw; (try dsimp only at hSw); go_simp; try (with_reducible rfl)
 refine tkH 5 rfl (v := ?v12) ?h12 ?r12
 case h12 => intro w hSw; (try dsimp only at hSw); go_simp; try (with_reducible rfl)
 try simp only [Act.put, lay1, lay2, lay3, lay4, lay5, lay6]
 try dsimp only
 try simp only [Act.put, lay1, lay2, lay3, lay4, lay5, lay6]
 refine wpAnyH_done (by kernel_rfl) ?_ _
 refine NoPanic.normal ?_
 skip
 obtain ⟨c14, c15, c16, c17, c18, c19⟩ := hS.q6
 obtain ⟨c20, c21, c22, c23, c24, c25⟩ := hL.q6
 obtain ⟨c26, c27⟩ := hW.q2
 go_wp2_with fail
 refine (hF _ hs).mono ?_
 rintro e w4 ⟨rfl, b4⟩
 replace hs := hs.below b4
 replace p1 := p1.below b4
 replace t1 := t1.below b4
 replace p2 := p2.below b4
 replace t2 := t2.below b4
 replace hS := hS.below b4 hS.lt
 replace hL := hL.below b4 hL.lt
 replace hW := hW.below b4 hW.lt
 replace hB := hB.trans (b4.mono hB.size)
 clear c14 c15 c16 c17 c18 c19 c20 c21 c22 c23 c24 c25 c26 c27
 obtain ⟨c28, c29, c30, c31, c32, c33⟩ := hS.q6
 obtain ⟨c34, c35, c36, c37, c38, c39⟩ := hL.q6
 obtain ⟨c40, c41⟩ := hW.q2
 go_wp2_with fail
 refine (hF1 _ p1 t1).mono ?_
 rintro e w6 ⟨rfl, b6⟩
 replace hs := hs.below b6
 replace p1 := p1.below b6
 replace t1 := t1.below b6
 replace p2 := p2.below b6
 replace t2 := t2.below b6
 replace hS := hS.below b6 hS.lt
 replace hL := hL.below b6 hL.lt
 replace hW := hW.below b6 hW.lt
 replace hB := hB.trans (b6.mono hB.size)
 clear c28 c29 c30 c31 c32 c33 c34 c35 c36 c37 c38 c39 c40 c41
 obtain ⟨c42, c43, c44, c45, c46, c47⟩ := hS.q6
 obtain ⟨c48, c49, c50, c51, c52, c53⟩ := hL.q6
 obtain ⟨c54, c55⟩ := hW.q2
 go_wp2_with fail
 refine (hA _).mono ?_
 rintro e w8 ⟨rfl, b8⟩
 replace hs := hs.below b8
 replace p1 := p1.below b8
 replace t1 := t1.below b8
 replace p2 := p2.below b8
 replace t2 := t2.below b8
 replace hS := hS.below b8 hS.lt
 replace hL := hL.below b8 hL.lt
 replace hW := hW.below b8 hW.lt
 replace hB := hB.trans (b8.mono hB.size)
 clear c42 c43 c44 c45 c46 c47 c48 c49 c50 c51 c52 c53 c54 c55
 obtain ⟨c56, c57, c58, c59, c60, c61⟩ := hS.q6
 obtain ⟨c62, c63, c64, c65, c66, c67⟩ := hL.q6
 obtain ⟨c68, c69⟩ := hW.q2
 go_wp2
 go_ret
 exact ⟨rfl, hB⟩
set_option maxRecDepth 100000 in
set_option maxHeartbeats 8000000 in
theorem TrackTells_u3 (k z m o n : Int) (A : Option Addr) (C : Nat) (bs : List Bk) (s1 s2 : Bool) (A1 D1 A2 D2 : Option Addr) (C1 E1 C2 E2 : Nat) (l1 m1 l2 m2 : List Nat) (beta f : Int) (w : World) (hs : IsSt w (.agg #[.int .i64 k, .int .i64 z, .int .i64 m, .int .i64 o, .int .i64 n, .slice A bs.length C]) (k, z, m, o, n, bs)) (hin : ∀ b ∈ bs, BkIn b) (r1 : RawQ w s1 (.slice A1 l1.length C1) (.slice D1 m1.length E1) l1 m1) (r2 : RawQ w s2 (.slice A2 l2.length C2) (.slice D2 m2.length E2) l2 m2) (_hb : In64 beta) (hf : fewS bs = true) (hf1 : fewQ s1 l1 m1 3 = true) (hf2 : fewQ s2 l2 m2 3 = false) :
   Calls Tryz.prog 3 #[.agg #[.int .i64 k, .int .i64 z, .int .i64 m, .int .i64 o, .int .i64 n, .slice A bs.length C], .agg #[.bool s1, .slice A1 l1.length C1, .slice D1 m1.length E1, .bool s2, .slice A2 l2.length C2, .slice D2 m2.length E2], .agg #[.int .i64 beta, .int .i64 f]] w fun e w' => e = .returned (.bool true) ∧ Below w.heap.size w w' := by
 have hA := fun w => alive20_any w
 have hF := fun w h => rfew14_any (.agg #[.int .i64 k, .int .i64 z, .int .i64 m, .int .i64 o, .int .i64 n, .slice A bs.length C]) (k, z, m, o, n, bs) w h hin
 simp only at hF
 obtain ⟨p1, t1⟩ := r1
 obtain ⟨p2, t2⟩ := r2
 have hF1 := fun w h1 h2 => rfew5_any s1 (.slice A1 l1.length C1) (.slice D1 m1.length E1) l1 m1 3 w h1 h2 (by omega)
 have hF2 := fun w h1 h2 => rfew5_any s2 (.slice A2 l2.length C2) (.slice D2 m2.length E2) l2 m2 3 w h1 h2 (by omega)
 rw [hf] at hF
 rw [hf1] at hF1
 rw [hf2] at hF2
 clear _hb hin
 obtain ⟨g, hg⟩ : ∃ g, g = w.heap.size := ⟨_, rfl⟩
 obtain ⟨Y0, eY0, hS, bY0⟩ := box1 w 26 #[.int .i64 k, .int .i64 z, .int .i64 m, .int .i64 o, .int .i64 n, .slice A bs.length C]
 have zY0 : Y0.heap.size = g + 1 := by rw [eY0, World.size_alloc, ← hg]
 rw [← hg] at hS
 replace hs := hs.below bY0
 replace p1 := p1.below bY0
 replace t1 := t1.below bY0
 replace p2 := p2.below bY0
 replace t2 := t2.below bY0
 have hB := bY0
 obtain ⟨Y1, eY1, hL, bY1⟩ := box1 Y0 33 #[.bool s1, .slice A1 l1.length C1, .slice D1 m1.length E1, .bool s2, .slice A2 l2.length C2, .slice D2 m2.length E2]
 have zY1 : Y1.heap.size = g + 1 + 1 := by rw [eY1, World.size_alloc, zY0]
 rw [zY0] at hL
 replace hS := hS.below bY1 hS.lt
 replace hs := hs.below bY1
 replace p1 := p1.below bY1
 replace t1 := t1.below bY1
 replace p2 := p2.below bY1
 replace t2 := t2.below bY1
 replace hB := hB.trans (bY1.mono hB.size)
 obtain ⟨Y2, eY2, hW, bY2⟩ := box1 Y1 34 #[.int .i64 beta, .int .i64 f]
 have zY2 : Y2.heap.size = g + 1 + 1 + 1 := by rw [eY2, World.size_alloc, zY1]
 rw [zY1] at hW
 replace hS := hS.below bY2 hS.lt
 replace hL := hL.below bY2 hL.lt
 replace hs := hs.below bY2
 replace p1 := p1.below bY2
 replace t1 := t1.below bY2
 replace p2 := p2.below bY2
 replace t2 := t2.below bY2
 replace hB := hB.trans (bY2.mono hB.size)
 have hgw : w.heap.size ≤ g := by omega
 have EY := Lib.hid (And.intro hg (And.intro eY0 (And.intro eY1 eY2)))
 clear hg eY0 zY0 eY1 zY1 eY2 zY2
 obtain ⟨c0, c1, c2, c3, c4, c5⟩ := hS.q6
 obtain ⟨c6, c7, c8, c9, c10, c11⟩ := hL.q6
 obtain ⟨c12, c13⟩ := hW.q2
 go_enter Tryz.func3, Tryz.ntmps3
 go_upto_region 1 with fail
 rw [← EY.out.2.1, ← EY.out.2.2.1, ← EY.out.2.2.2, ← EY.out.1]
 replace hB := hB.drew
 replace hs := hs.below (bdrew _)
 replace p1 := p1.below (bdrew _)
 replace t1 := t1.below (bdrew _)
 replace p2 := p2.below (bdrew _)
 replace t2 := t2.below (bdrew _)
 replace hS := hS.drew
 replace hL := hL.drew
 replace hW := hW.drew
 clear c0 c1 c2 c3 c4 c5 c6 c7 c8 c9 c10 c11 c12 c13
 refine wp_region_noPanic ?_
 refine wp_region_held_drew (S := fun w' => w'.cell? ⟨g + 1 + 1, 0, none⟩ = some (.int .i64 beta) ∧ w'.cell? ⟨g + 1 + 1, 1, none⟩ = some (.int .i64 f)) (by kernel_rfl) ?_ (fun hHeld => ?_)
 · exact ⟨hW.cell 0, hW.cell 1⟩
 obtain ⟨wd1_1, hwd⟩ : ∃ q, q = Y2.drew := ⟨_, rfl⟩
 rw [← hwd] at hB hs p1 t1 p2 t2 hS hL hW hHeld ⊢
 clear hwd
 refine tkH 0 rfl (v := ?v13) ?h13 ?r13
 case h13 => intro w hSw; (try dsimp only at hSw); go_simp; try (with_reducible rfl)
 refine tkH 1 rfl (v := ?v14) ?h14 ?r14
 case h14 => intro w hSw; (try dsimp only at hSw); go_simp; try (with_reducible rfl)
 refine tkH 2 rfl (v := ?v15) ?h15 ?r15
 case h15 => intro w hSw; (try dsimp only at hSw); go_simp; try (with_reducible rfl)
 refine tkH 3 rfl (v := ?v16) ?h16 ?r16
 case h16 => intro w hSw; (try dsimp only at hSw); go_simp; try (with_reducible rfl)
 refine tkH 4 rfl (v := ?v17) ?h17 ?r17
 case h17 => intro w hSw; (try dsimp only at hSw); go_simp; try (with_reducible rfl)
 refine tkH 5 rfl (v := ?v18) ?h18 ?r18
 case h18 => intro w hSw; (try dsimp only at hSw); go_simp; try (with_reducible rfl)
 try simp only [Act.put, lay1, lay2, lay3, lay4, lay5, lay6]
 try dsimp only
 try simp only [Act.put, lay1, lay2, lay3, lay4, lay5, lay6]
 refine wpAnyH_done (by kernel_rfl) ?_ _
 refine NoPanic.normal ?_
 skip
 obtain ⟨c14, c15, c16, c17, c18, c19⟩ := hS.q6
 obtain ⟨c20, c21, c22, c23, c24, c25⟩ := hL.q6
 obtain ⟨c26, c27⟩ := hW.q2
 go_wp2_with fail
 refine (hF _ hs).mono ?_
 rintro e w4 ⟨rfl, b4⟩
 replace hs := hs.below b4
 replace p1 := p1.below b4
 replace t1 := t1.below b4
 replace p2 := p2.below b4
 replace t2 := t2.below b4
 replace hS := hS.below b4 hS.lt
 replace hL := hL.below b4 hL.lt
 replace hW := hW.below b4 hW.lt
 replace hB := hB.trans (b4.mono hB.size)
 clear c14 c15 c16 c17 c18 c19 c20 c21 c22 c23 c24 c25 c26 c27
 obtain ⟨c28, c29, c30, c31, c32, c33⟩ := hS.q6
 obtain ⟨c34, c35, c36, c37, c38, c39⟩ := hL.q6
 obtain ⟨c40, c41⟩ := hW.q2
 go_wp2_with fail
 refine (hF1 _ p1 t1).mono ?_
 rintro e w6 ⟨rfl, b6⟩
 replace hs := hs.below b6
 replace p1 := p1.below b6
 replace t1 := t1.below b6
 replace p2 := p2.below b6
 replace t2 := t2.below b6
 replace hS := hS.below b6 hS.lt
 replace hL := hL.below b6 hL.lt
 replace hW := hW.below b6 hW.lt
 replace hB := hB.trans (b6.mono hB.size)
 clear c28 c29 c30 c31 c32 c33 c34 c35 c36 c37 c38 c39 c40 c41
 obtain ⟨c42, c43, c44, c45, c46, c47⟩ := hS.q6
 obtain ⟨c48, c49, c50, c51, c52, c53⟩ := hL.q6
 obtain ⟨c54, c55⟩ := hW.q2
 go_wp2_with fail
 refine (hF2 _ p2 t2).mono ?_
 rintro e w8 ⟨rfl, b8⟩
 replace hs := hs.below b8
 replace p1 := p1.below b8
 replace t1 := t1.below b8
 replace p2 := p2.below b8
 replace t2 := t2.below b8
 replace hS := hS.below b8 hS.lt
 replace hL := hL.below b8 hL.lt
 replace hW := hW.below b8 hW.lt
 replace hB := hB.trans (b8.mono hB.size)
 clear c42 c43 c44 c45 c46 c47 c48 c49 c50 c51 c52 c53 c54 c55
 obtain ⟨c56, c57, c58, c59, c60, c61⟩ := hS.q6
 obtain ⟨c62, c63, c64, c65, c66, c67⟩ := hL.q6
 obtain ⟨c68, c69⟩ := hW.q2
 go_wp2_with fail
 refine (hA _).mono ?_
 rintro e w10 ⟨rfl, b10⟩
 replace hs := hs.below b10
 replace p1 := p1.below b10
 replace t1 := t1.below b10
 replace p2 := p2.below b10
 replace t2 := t2.below b10
 replace hS := hS.below b10 hS.lt
 replace hL := hL.below b10 hL.lt
 replace hW := hW.below b10 hW.lt
 replace hB := hB.trans (b10.mono hB.size)
 clear c56 c57 c58 c59 c60 c61 c62 c63 c64 c65 c66 c67 c68 c69
 obtain ⟨c70, c71, c72, c73, c74, c75⟩ := hS.q6
 obtain ⟨c76, c77, c78, c79, c80, c81⟩ := hL.q6
 obtain ⟨c82, c83⟩ := hW.q2
 go_wp2
 go_ret
 exact ⟨rfl, hB⟩
set_option maxRecDepth 100000 in
set_option maxHeartbeats 8000000 in
theorem TrackTells_r1 (k z m o n : Int) (A : Option Addr) (C : Nat) (bs : List Bk) (s1 s2 : Bool) (A1 D1 A2 D2 : Option Addr) (C1 E1 C2 E2 : Nat) (l1 m1 l2 m2 : List Nat) (beta f : Int) (w : World) (hs : IsSt w (.agg #[.int .i64 k, .int .i64 z, .int .i64 m, .int .i64 o, .int .i64 n, .slice A bs.length C]) (k, z, m, o, n, bs)) (hin : ∀ b ∈ bs, BkIn b) (r1 : RawQ w s1 (.slice A1 l1.length C1) (.slice D1 m1.length E1) l1 m1) (r2 : RawQ w s2 (.slice A2 l2.length C2) (.slice D2 m2.length E2) l2 m2) (hb : In64 beta) (hf : fewS bs = true) (hf1 : fewQ s1 l1 m1 3 = true) (hf2 : fewQ s2 l2 m2 3 = true) (hr : rightS (k, z, m, o, n, bs) = true) :
   Calls Tryz.prog 3 #[.agg #[.int .i64 k, .int .i64 z, .int .i64 m, .int .i64 o, .int .i64 n, .slice A bs.length C], .agg #[.bool s1, .slice A1 l1.length C1, .slice D1 m1.length E1, .bool s2, .slice A2 l2.length C2, .slice D2 m2.length E2], .agg #[.int .i64 beta, .int .i64 f]] w fun e w' => e = .returned (.bool true) ∧ Below w.heap.size w w' := by
 have hA := fun w => alive20_any w
 have hF := fun w h => rfew14_any (.agg #[.int .i64 k, .int .i64 z, .int .i64 m, .int .i64 o, .int .i64 n, .slice A bs.length C]) (k, z, m, o, n, bs) w h hin
 simp only at hF
 obtain ⟨p1, t1⟩ := r1
 obtain ⟨p2, t2⟩ := r2
 have hF1 := fun w h1 h2 => rfew5_any s1 (.slice A1 l1.length C1) (.slice D1 m1.length E1) l1 m1 3 w h1 h2 (by omega)
 have hF2 := fun w h1 h2 => rfew5_any s2 (.slice A2 l2.length C2) (.slice D2 m2.length E2) l2 m2 3 w h1 h2 (by omega)
 rw [hf] at hF
 rw [hf1] at hF1
 rw [hf2] at hF2
 unfold fewQ at hf1 hf2
 simp only [Bool.and_eq_true, decide_eq_true_eq] at hf1 hf2
 obtain ⟨q1, b1, -, -⟩ := isQ_of p1 t1 hf1.2.2
 obtain ⟨q2, b2, -, -⟩ := isQ_of p2 t2 hf2.2.2
 replace b1 := b1.more (m := 2000) (by omega)
 replace b2 := b2.more (m := 2000) (by omega)
 have hR := fun w h => rright14_any (.agg #[.int .i64 k, .int .i64 z, .int .i64 m, .int .i64 o, .int .i64 n, .slice A bs.length C]) (k, z, m, o, n, bs) w h hin
 rw [hr] at hR
 have hfb := few_facts20 hf
 have hlo := right_load20 hr hin
 have hnl : lenS bs ≤ 5000 := by unfold fewS at hf; rw [Bool.and_eq_true, decide_eq_true_eq, decide_eq_true_eq] at hf; omega
 have hPq := fun v w h => quant_any v (k, z, m, o, n, bs) w h hfb hnl hlo
 have hRq := fun v w h => rquant_any v (k, z, m, o, n, bs) w h hfb hnl hlo
 simp only at hPq hRq
 have hRs := fun u v w hu hv => rrats_same u v (quantS bs) w hu hv
 generalize quantS bs = qs at *
 clear hfb hlo hnl
 have hN1 := fun u v w hu hv => pnext_res beta f u v (theQ s1 l1 m1) (theQ s2 l2 m2) w hb hu hv b1 b2
 have hN2 := fun u v w hu hv => rnext_res beta f u v (theQ s1 l1 m1) (theQ s2 l2 m2) w hb hu hv b1 b2
 have hR1 := fun u w hu => paround_res beta f u (theQ s1 l1 m1) w hb hu b1
 have hR2 := fun u w hu => raround_res beta f u (theQ s1 l1 m1) w hb hu b1
 generalize nextQ beta f.toNat (theQ s1 l1 m1) (theQ s2 l2 m2) = rn at *
 generalize nextBad beta f (theQ s1 l1 m1) (theQ s2 l2 m2) = bn at *
 generalize mkRat beta (2 ^ f.toNat) - theQ s1 l1 m1 * mkRat 1 (2 ^ f.toNat) = ra at *
 generalize mkRat beta (2 ^ f.toNat) + theQ s1 l1 m1 * mkRat 1 (2 ^ f.toNat) = rb at *
 generalize arBad f (theQ s1 l1 m1) = ba at *
 generalize theQ s1 l1 m1 = y1 at *
 generalize theQ s2 l2 m2 = y2 at *
 generalize errOf bn = en at *
 generalize errOf ba = ea at *
 clear hf hf1 hf2 hr hin hb b1 b2
 obtain ⟨g, hg⟩ : ∃ g, g = w.heap.size := ⟨_, rfl⟩
 obtain ⟨Y0, eY0, hS, bY0⟩ := box1 w 26 #[.int .i64 k, .int .i64 z, .int .i64 m, .int .i64 o, .int .i64 n, .slice A bs.length C]
 have zY0 : Y0.heap.size = g + 1 := by rw [eY0, World.size_alloc, ← hg]
 rw [← hg] at hS
 replace q1 := q1.below bY0
 replace q2 := q2.below bY0
 replace hs := hs.below bY0
 replace p1 := p1.below bY0
 replace t1 := t1.below bY0
 replace p2 := p2.below bY0
 replace t2 := t2.below bY0
 have hB := bY0
 obtain ⟨Y1, eY1, hL, bY1⟩ := box1 Y0 33 #[.bool s1, .slice A1 l1.length C1, .slice D1 m1.length E1, .bool s2, .slice A2 l2.length C2, .slice D2 m2.length E2]
 have zY1 : Y1.heap.size = g + 1 + 1 := by rw [eY1, World.size_alloc, zY0]
 rw [zY0] at hL
 replace hS := hS.below bY1 hS.lt
 replace q1 := q1.below bY1
 replace q2 := q2.below bY1
 replace hs := hs.below bY1
 replace p1 := p1.below bY1
 replace t1 := t1.below bY1
 replace p2 := p2.below bY1
 replace t2 := t2.below bY1
 replace hB := hB.trans (bY1.mono hB.size)
 obtain ⟨Y2, eY2, hW, bY2⟩ := box1 Y1 34 #[.int .i64 beta, .int .i64 f]
 have zY2 : Y2.heap.size = g + 1 + 1 + 1 := by rw [eY2, World.size_alloc, zY1]
 rw [zY1] at hW
 replace hS := hS.below bY2 hS.lt
 replace hL := hL.below bY2 hL.lt
 replace q1 := q1.below bY2
 replace q2 := q2.below bY2
 replace hs := hs.below bY2
 replace p1 := p1.below bY2
 replace t1 := t1.below bY2
 replace p2 := p2.below bY2
 replace t2 := t2.below bY2
 replace hB := hB.trans (bY2.mono hB.size)
 have hgw : w.heap.size ≤ g := by omega
 have EY := Lib.hid (And.intro hg (And.intro eY0 (And.intro eY1 eY2)))
 clear hg eY0 zY0 eY1 zY1 eY2 zY2
 obtain ⟨c0, c1, c2, c3, c4, c5⟩ := hS.q6
 obtain ⟨c6, c7, c8, c9, c10, c11⟩ := hL.q6
 obtain ⟨c12, c13⟩ := hW.q2
 go_enter Tryz.func3, Tryz.ntmps3
 go_upto_region 1 with fail
 rw [← EY.out.2.1, ← EY.out.2.2.1, ← EY.out.2.2.2, ← EY.out.1]
 replace hB := hB.drew
 replace q1 := q1.below (bdrew _)
 replace q2 := q2.below (bdrew _)
 replace hs := hs.below (bdrew _)
 replace p1 := p1.below (bdrew _)
 replace t1 := t1.below (bdrew _)
 replace p2 := p2.below (bdrew _)
 replace t2 := t2.below (bdrew _)
 replace hS := hS.drew
 replace hL := hL.drew
 replace hW := hW.drew
 clear c0 c1 c2 c3 c4 c5 c6 c7 c8 c9 c10 c11 c12 c13
 refine wp_region_noPanic ?_
 refine wp_region_held_drew (S := fun w' => w'.cell? ⟨g + 1 + 1, 0, none⟩ = some (.int .i64 beta) ∧ w'.cell? ⟨g + 1 + 1, 1, none⟩ = some (.int .i64 f)) (by kernel_rfl) ?_ (fun hHeld => ?_)
 · exact ⟨hW.cell 0, hW.cell 1⟩
 obtain ⟨wd1_1, hwd⟩ : ∃ q, q = Y2.drew := ⟨_, rfl⟩
 rw [← hwd] at hB q1 q2 hs p1 t1 p2 t2 hS hL hW hHeld ⊢
 clear hwd
 refine tkH 0 rfl (v := ?v19) ?h19 ?r19
 case h19 => intro w hSw; (try dsimp only at hSw); go_simp; try (with_reducible rfl)
 refine tkH 1 rfl (v := ?v20) ?h20 ?r20
 case h20 => intro w hSw; (try dsimp only at hSw); go_simp; try (with_reducible rfl)
 refine tkH 2 rfl (v := ?v21) ?h21 ?r21
 case h21 => intro w hSw; (try dsimp only at hSw); go_simp; try (with_reducible rfl)
 refine tkH 3 rfl (v := ?v22) ?h22 ?r22
 case h22 => intro w hSw; (try dsimp only at hSw); go_simp; try (with_reducible rfl)
 refine tkH 4 rfl (v := ?v23) ?h23 ?r23
 case h23 => intro w hSw; (try dsimp only at hSw); go_simp; try (with_reducible rfl)
 refine tkH 5 rfl (v := ?v24) ?h24 ?r24
 case h24 => intro w hSw; (try dsimp only at hSw); go_simp; try (with_reducible rfl)
 try simp only [Act.put, lay1, lay2, lay3, lay4, lay5, lay6]
 try dsimp only
 try simp only [Act.put, lay1, lay2, lay3, lay4, lay5, lay6]
 refine wpAnyH_done (by kernel_rfl) ?_ _
 refine NoPanic.normal ?_
 skip
 obtain ⟨c14, c15, c16, c17, c18, c19⟩ := hS.q6
 obtain ⟨c20, c21, c22, c23, c24, c25⟩ := hL.q6
 obtain ⟨c26, c27⟩ := hW.q2
 go_wp2_with fail
 refine (hF _ hs).mono ?_
 rintro e w4 ⟨rfl, b4⟩
 replace q1 := q1.below b4
 replace q2 := q2.below b4
 replace hs := hs.below b4
 replace p1 := p1.below b4
 replace t1 := t1.below b4
 replace p2 := p2.below b4
 replace t2 := t2.below b4
 replace hS := hS.below b4 hS.lt
 replace hL := hL.below b4 hL.lt
 replace hW := hW.below b4 hW.lt
 replace hB := hB.trans (b4.mono hB.size)
 clear c14 c15 c16 c17 c18 c19 c20 c21 c22 c23 c24 c25 c26 c27
 obtain ⟨c28, c29, c30, c31, c32, c33⟩ := hS.q6
 obtain ⟨c34, c35, c36, c37, c38, c39⟩ := hL.q6
 obtain ⟨c40, c41⟩ := hW.q2
 go_wp2_with fail
 refine (hF1 _ p1 t1).mono ?_
 rintro e w6 ⟨rfl, b6⟩
 replace q1 := q1.below b6
 replace q2 := q2.below b6
 replace hs := hs.below b6
 replace p1 := p1.below b6
 replace t1 := t1.below b6
 replace p2 := p2.below b6
 replace t2 := t2.below b6
 replace hS := hS.below b6 hS.lt
 replace hL := hL.below b6 hL.lt
 replace hW := hW.below b6 hW.lt
 replace hB := hB.trans (b6.mono hB.size)
 clear c28 c29 c30 c31 c32 c33 c34 c35 c36 c37 c38 c39 c40 c41
 obtain ⟨c42, c43, c44, c45, c46, c47⟩ := hS.q6
 obtain ⟨c48, c49, c50, c51, c52, c53⟩ := hL.q6
 obtain ⟨c54, c55⟩ := hW.q2
 go_wp2_with fail
 refine (hF2 _ p2 t2).mono ?_
 rintro e w8 ⟨rfl, b8⟩
 replace q1 := q1.below b8
 replace q2 := q2.below b8
 replace hs := hs.below b8
 replace p1 := p1.below b8
 replace t1 := t1.below b8
 replace p2 := p2.below b8
 replace t2 := t2.below b8
 replace hS := hS.below b8 hS.lt
 replace hL := hL.below b8 hL.lt
 replace hW := hW.below b8 hW.lt
 replace hB := hB.trans (b8.mono hB.size)
 clear c42 c43 c44 c45 c46 c47 c48 c49 c50 c51 c52 c53 c54 c55
 obtain ⟨c56, c57, c58, c59, c60, c61⟩ := hS.q6
 obtain ⟨c62, c63, c64, c65, c66, c67⟩ := hL.q6
 obtain ⟨c68, c69⟩ := hW.q2
 go_upto_region 4 with fail
 replace hB := hB.drew
 replace q1 := q1.below (bdrew _)
 replace q2 := q2.below (bdrew _)
 replace hs := hs.below (bdrew _)
 replace hS := hS.drew
 replace hL := hL.drew
 replace hW := hW.drew
 clear c56 c57 c58 c59 c60 c61 c62 c63 c64 c65 c66 c67 c68 c69
 refine wp_region_noPanic ?_
 refine wp_region_held_drew (S := fun w' => w'.cell? ⟨g, 0, none⟩ = some (.int .i64 k) ∧ w'.cell? ⟨g, 1, none⟩ = some (.int .i64 z) ∧ w'.cell? ⟨g, 2, none⟩ = some (.int .i64 m) ∧ w'.cell? ⟨g, 3, none⟩ = some (.int .i64 o) ∧ w'.cell? ⟨g, 4, none⟩ = some (.int .i64 n) ∧ w'.cell? ⟨g, 5, none⟩ = some (.slice A bs.length C)) (by kernel_rfl) ?_ (fun hHeld => ?_)
 · exact ⟨hS.cell 0, hS.cell 1, hS.cell 2, hS.cell 3, hS.cell 4, hS.cell 5⟩
 obtain ⟨wd4_2, hwd⟩ : ∃ q, q = w8.drew := ⟨_, rfl⟩
 rw [← hwd] at hB q1 q2 hs hS hL hW hHeld ⊢
 clear hwd
 refine tkH 0 rfl (v := ?v25) ?h25 ?r25
 case h25 => intro w hSw; (try dsimp only at hSw); go_simp; try (with_reducible rfl)
 try simp only [Act.put, lay1, lay3, lay4, lay5, lay6]
 refine wpAnyH_ready (rs := [1]) (by kernel_rfl) (by simp) (AllReadyH.cons rfl (fun K hK => ?_) AllReadyH.nil)
 go_simp
 refine (hR _ hs).mono ?_
 rintro e u4_1 ⟨rfl, b4_1⟩
 replace q1 := q1.below b4_1
 replace q2 := q2.below b4_1
 replace hs := hs.below b4_1
 replace hS := hS.below b4_1 hS.lt
 replace hL := hL.below b4_1 hL.lt
 replace hW := hW.below b4_1 hW.lt
 replace hB := hB.trans (b4_1.mono hB.size)
 go_wp2_with fail
 refine hK.out _ _ ?_ (fun hHeld => ?_)
 · exact ⟨hS.cell 0, hS.cell 1, hS.cell 2, hS.cell 3, hS.cell 4, hS.cell 5⟩
 clear hK K
 refine tkH 2 rfl (v := ?v26) ?h26 ?r26
 case h26 => intro w hSw; (try dsimp only at hSw); go_simp; try (with_reducible rfl)
 refine tkH 3 rfl (v := ?v27) ?h27 ?r27
 case h27 => intro w hSw; (try dsimp only at hSw); go_simp; try (with_reducible rfl)
 refine tkH 5 rfl (v := ?v28) ?h28 ?r28
 case h28 => intro w hSw; (try dsimp only at hSw); go_simp; try (with_reducible rfl)
 try simp only [Act.put, lay1, lay2, lay3, lay4, lay5, lay6]
 refine wpAnyH_ready (rs := [4]) (by kernel_rfl) (by simp) (AllReadyH.cons rfl (fun K hK => ?_) AllReadyH.nil)
 go_simp
 refine (hPq _ _ hs).mono ?_
 rintro e u4_2 ⟨v20, rfl, z20, b4_2⟩
 replace q1 := q1.below b4_2
 replace q2 := q2.below b4_2
 replace hs := hs.below b4_2
 replace hS := hS.below b4_2 hS.lt
 replace hL := hL.below b4_2 hL.lt
 replace hW := hW.below b4_2 hW.lt
 replace hB := hB.trans (b4_2.mono hB.size)
 go_wp2_with fail
 refine hK.out _ _ ?_ (fun hHeld => ?_)
 · exact ⟨hS.cell 0, hS.cell 1, hS.cell 2, hS.cell 3, hS.cell 4, hS.cell 5⟩
 clear hK K
 try simp only [Act.put, lay1, lay2, lay3, lay4, lay5, lay6]
 refine wpAnyH_ready (rs := [6]) (by kernel_rfl) (by simp) (AllReadyH.cons rfl (fun K hK => ?_) AllReadyH.nil)
 go_simp
 refine (hRq _ _ hs).mono ?_
 rintro e u4_3 ⟨v21, rfl, z21, b4_3⟩
 replace q1 := q1.below b4_3
 replace q2 := q2.below b4_3
 replace hs := hs.below b4_3
 replace hS := hS.below b4_3 hS.lt
 replace hL := hL.below b4_3 hL.lt
 replace hW := hW.below b4_3 hW.lt
 replace z20 := z20.below b4_3
 replace hB := hB.trans (b4_3.mono hB.size)
 go_wp2_with fail
 refine hK.out _ _ ?_ (fun hHeld => ?_)
 · exact ⟨hS.cell 0, hS.cell 1, hS.cell 2, hS.cell 3, hS.cell 4, hS.cell 5⟩
 clear hK K
 try simp only [Act.put, lay1, lay2, lay3, lay4, lay5, lay6]
 refine wpAnyH_ready (rs := [7]) (by kernel_rfl) (by simp) (AllReadyH.cons rfl (fun K hK => ?_) AllReadyH.nil)
 go_simp
 refine (hRs _ _ _ z20 z21).mono ?_
 rintro e u4_4 ⟨rfl, b4_4⟩
 replace q1 := q1.below b4_4
 replace q2 := q2.below b4_4
 replace hs := hs.below b4_4
 replace hS := hS.below b4_4 hS.lt
 replace hL := hL.below b4_4 hL.lt
 replace hW := hW.below b4_4 hW.lt
 replace z20 := z20.below b4_4
 replace z21 := z21.below b4_4
 replace hB := hB.trans (b4_4.mono hB.size)
 go_wp2_with fail
 refine hK.out _ _ ?_ (fun hHeld => ?_)
 · exact ⟨hS.cell 0, hS.cell 1, hS.cell 2, hS.cell 3, hS.cell 4, hS.cell 5⟩
 clear hK K
 refine tkH 8 rfl (v := ?v29) ?h29 ?r29
 case h29 => intro w hSw; (try dsimp only at hSw); go_simp; try (with_reducible rfl)
 refine tkH 9 rfl (v := ?v30) ?h30 ?r30
 case h30 => intro w hSw; (try dsimp only at hSw); go_simp; try (with_reducible rfl)
 try simp only [Act.put, lay1, lay2, lay3, lay4, lay5, lay6]
 try dsimp only
 try simp only [Act.put, lay1, lay2, lay3, lay4, lay5, lay6]
 refine wpAnyH_done (by kernel_rfl) ?_ _
 refine NoPanic.normal ?_
 skip
 obtain ⟨c70, c71, c72, c73, c74, c75⟩ := hS.q6
 obtain ⟨c76, c77, c78, c79, c80, c81⟩ := hL.q6
 obtain ⟨c82, c83⟩ := hW.q2
 go_wp2_with fail
 refine (hN1 _ _ _ q1 q2).mono ?_
 rintro e w12 ⟨v3, rfl, x3, b12⟩
 replace q1 := q1.below b12
 replace q2 := q2.below b12
 replace hS := hS.below b12 hS.lt
 replace hL := hL.below b12 hL.lt
 replace hW := hW.below b12 hW.lt
 replace hB := hB.trans (b12.mono hB.size)
 clear c70 c71 c72 c73 c74 c75 c76 c77 c78 c79 c80 c81 c82 c83
 obtain ⟨c84, c85, c86, c87, c88, c89⟩ := hS.q6
 obtain ⟨c90, c91, c92, c93, c94, c95⟩ := hL.q6
 obtain ⟨c96, c97⟩ := hW.q2
 obtain ⟨s3, A3, L3, C3, D3, M3, E3, rfl, x3⟩ := x3.opn
 obtain ⟨V14, eV, h3, bV14⟩ := box1 w12 32 #[.bool s3, .slice A3 L3 C3, .slice D3 M3 E3]
 obtain ⟨X14, eX⟩ : ∃ X, X = w12.heap.size := ⟨_, rfl⟩
 rw [← eX] at h3
 have lX14 : w.heap.size ≤ X14 := by rw [eX]; exact hB.size
 have dX14_hS : g ≠ X14 := by have := hS.lt; omega
 have dX14_hL : g + 1 ≠ X14 := by have := hL.lt; omega
 have dX14_hW : g + 1 + 1 ≠ X14 := by have := hW.lt; omega
 have EV14 := Lib.hid (And.intro eV eX)
 clear eV eX
 go_upto_region 7 with fail
 rw [← EV14.out.1, ← EV14.out.2]
 replace q1 := q1.below bV14
 replace q2 := q2.below bV14
 replace hS := hS.below bV14 hS.lt
 replace hL := hL.below bV14 hL.lt
 replace hW := hW.below bV14 hW.lt
 replace x3 := x3.below bV14
 replace hB := hB.trans (bV14.mono hB.size)
 clear c84 c85 c86 c87 c88 c89 c90 c91 c92 c93 c94 c95 c96 c97
 obtain ⟨c98, c99, c100, c101, c102, c103⟩ := hS.q6
 obtain ⟨c104, c105, c106, c107, c108, c109⟩ := hL.q6
 obtain ⟨c110, c111⟩ := hW.q2
 obtain ⟨c112, c113, c114⟩ := h3.q3
 go_wp2_with fail
 refine (hN2 _ _ _ q1 q2).mono ?_
 rintro e w16 ⟨v4, rfl, x4, b16⟩
 replace q1 := q1.below b16
 replace q2 := q2.below b16
 replace hS := hS.below b16 hS.lt
 replace hL := hL.below b16 hL.lt
 replace hW := hW.below b16 hW.lt
 replace x3 := x3.below b16
 replace h3 := h3.below b16 h3.lt
 replace hB := hB.trans (b16.mono hB.size)
 clear c98 c99 c100 c101 c102 c103 c104 c105 c106 c107 c108 c109 c110 c111 c112 c113 c114
 obtain ⟨c115, c116, c117, c118, c119, c120⟩ := hS.q6
 obtain ⟨c121, c122, c123, c124, c125, c126⟩ := hL.q6
 obtain ⟨c127, c128⟩ := hW.q2
 obtain ⟨c129, c130, c131⟩ := h3.q3
 obtain ⟨s4, A4, L4, C4, D4, M4, E4, rfl, x4⟩ := x4.opn
 obtain ⟨V18, eV, h4, bV18⟩ := box1 w16 32 #[.bool s4, .slice A4 L4 C4, .slice D4 M4 E4]
 obtain ⟨X18, eX⟩ : ∃ X, X = w16.heap.size := ⟨_, rfl⟩
 rw [← eX] at h4
 have lX18 : w.heap.size ≤ X18 := by rw [eX]; exact hB.size
 have dX18_hS : g ≠ X18 := by have := hS.lt; omega
 have dX18_hL : g + 1 ≠ X18 := by have := hL.lt; omega
 have dX18_hW : g + 1 + 1 ≠ X18 := by have := hW.lt; omega
 have dX18_h3 : X14 ≠ X18 := by have := h3.lt; omega
 have EV18 := Lib.hid (And.intro eV eX)
 clear eV eX
 go_upto_region 8 with fail
 rw [← EV18.out.1, ← EV18.out.2]
 replace q1 := q1.below bV18
 replace q2 := q2.below bV18
 replace hS := hS.below bV18 hS.lt
 replace hL := hL.below bV18 hL.lt
 replace hW := hW.below bV18 hW.lt
 replace x3 := x3.below bV18
 replace h3 := h3.below bV18 h3.lt
 replace x4 := x4.below bV18
 replace hB := hB.trans (bV18.mono hB.size)
 clear c115 c116 c117 c118 c119 c120 c121 c122 c123 c124 c125 c126 c127 c128 c129 c130 c131
 obtain ⟨c132, c133, c134, c135, c136, c137⟩ := hS.q6
 obtain ⟨c138, c139, c140, c141, c142, c143⟩ := hL.q6
 obtain ⟨c144, c145⟩ := hW.q2
 obtain ⟨c146, c147, c148⟩ := h3.q3
 obtain ⟨c149, c150, c151⟩ := h4.q3
 go_wp2_with fail
 refine (hR1 _ _ q1).mono ?_
 rintro e w20 ⟨v5, rfl, x5, b20⟩
 replace q1 := q1.below b20
 replace q2 := q2.below b20
 replace hS := hS.below b20 hS.lt
 replace hL := hL.below b20 hL.lt
 replace hW := hW.below b20 hW.lt
 replace x3 := x3.below b20
 replace h3 := h3.below b20 h3.lt
 replace x4 := x4.below b20
 replace h4 := h4.below b20 h4.lt
 replace hB := hB.trans (b20.mono hB.size)
 clear c132 c133 c134 c135 c136 c137 c138 c139 c140 c141 c142 c143 c144 c145 c146 c147 c148 c149 c150 c151
 obtain ⟨c152, c153, c154, c155, c156, c157⟩ := hS.q6
 obtain ⟨c158, c159, c160, c161, c162, c163⟩ := hL.q6
 obtain ⟨c164, c165⟩ := hW.q2
 obtain ⟨c166, c167, c168⟩ := h3.q3
 obtain ⟨c169, c170, c171⟩ := h4.q3
 obtain ⟨s5, A5, L5, C5, D5, M5, E5, s6, A6, L6, C6, D6, M6, E6, rfl, x5⟩ := x5.opn
 obtain ⟨V22, eV, h5, bV22⟩ := box1 w20 46 #[.bool s5, .slice A5 L5 C5, .slice D5 M5 E5, .bool s6, .slice A6 L6 C6, .slice D6 M6 E6]
 obtain ⟨X22, eX⟩ : ∃ X, X = w20.heap.size := ⟨_, rfl⟩
 rw [← eX] at h5
 have lX22 : w.heap.size ≤ X22 := by rw [eX]; exact hB.size
 have dX22_hS : g ≠ X22 := by have := hS.lt; omega
 have dX22_hL : g + 1 ≠ X22 := by have := hL.lt; omega
 have dX22_hW : g + 1 + 1 ≠ X22 := by have := hW.lt; omega
 have dX22_h3 : X14 ≠ X22 := by have := h3.lt; omega
 have dX22_h4 : X18 ≠ X22 := by have := h4.lt; omega
 have EV22 := Lib.hid (And.intro eV eX)
 clear eV eX
 go_upto_region 9 with fail
 rw [← EV22.out.1, ← EV22.out.2]
 replace q1 := q1.below bV22
 replace q2 := q2.below bV22
 replace hS := hS.below bV22 hS.lt
 replace hL := hL.below bV22 hL.lt
 replace hW := hW.below bV22 hW.lt
 replace x3 := x3.below bV22
 replace h3 := h3.below bV22 h3.lt
 replace x4 := x4.below bV22
 replace h4 := h4.below bV22 h4.lt
 replace x5 := x5.below bV22
 replace hB := hB.trans (bV22.mono hB.size)
 clear c152 c153 c154 c155 c156 c157 c158 c159 c160 c161 c162 c163 c164 c165 c166 c167 c168 c169 c170 c171
 obtain ⟨c172, c173, c174, c175, c176, c177⟩ := hS.q6
 obtain ⟨c178, c179, c180, c181, c182, c183⟩ := hL.q6
 obtain ⟨c184, c185⟩ := hW.q2
 obtain ⟨c186, c187, c188⟩ := h3.q3
 obtain ⟨c189, c190, c191⟩ := h4.q3
 obtain ⟨c192, c193, c194, c195, c196, c197⟩ := h5.q6
 go_wp2_with fail
 refine (hR2 _ _ q1).mono ?_
 rintro e w24 ⟨v7, rfl, x7, b24⟩
 replace q1 := q1.below b24
 replace q2 := q2.below b24
 replace hS := hS.below b24 hS.lt
 replace hL := hL.below b24 hL.lt
 replace hW := hW.below b24 hW.lt
 replace x3 := x3.below b24
 replace h3 := h3.below b24 h3.lt
 replace x4 := x4.below b24
 replace h4 := h4.below b24 h4.lt
 replace x5 := x5.below b24
 replace h5 := h5.below b24 h5.lt
 replace hB := hB.trans (b24.mono hB.size)
 clear c172 c173 c174 c175 c176 c177 c178 c179 c180 c181 c182 c183 c184 c185 c186 c187 c188 c189 c190 c191 c192 c193 c194 c195 c196 c197
 obtain ⟨c198, c199, c200, c201, c202, c203⟩ := hS.q6
 obtain ⟨c204, c205, c206, c207, c208, c209⟩ := hL.q6
 obtain ⟨c210, c211⟩ := hW.q2
 obtain ⟨c212, c213, c214⟩ := h3.q3
 obtain ⟨c215, c216, c217⟩ := h4.q3
 obtain ⟨c218, c219, c220, c221, c222, c223⟩ := h5.q6
 obtain ⟨s7, A7, L7, C7, D7, M7, E7, s8, A8, L8, C8, D8, M8, E8, rfl, x7⟩ := x7.opn
 obtain ⟨V26, eV, h7, bV26⟩ := box1 w24 46 #[.bool s7, .slice A7 L7 C7, .slice D7 M7 E7, .bool s8, .slice A8 L8 C8, .slice D8 M8 E8]
 obtain ⟨X26, eX⟩ : ∃ X, X = w24.heap.size := ⟨_, rfl⟩
 rw [← eX] at h7
 have lX26 : w.heap.size ≤ X26 := by rw [eX]; exact hB.size
 have dX26_hS : g ≠ X26 := by have := hS.lt; omega
 have dX26_hL : g + 1 ≠ X26 := by have := hL.lt; omega
 have dX26_hW : g + 1 + 1 ≠ X26 := by have := hW.lt; omega
 have dX26_h3 : X14 ≠ X26 := by have := h3.lt; omega
 have dX26_h4 : X18 ≠ X26 := by have := h4.lt; omega
 have dX26_h5 : X22 ≠ X26 := by have := h5.lt; omega
 have EV26 := Lib.hid (And.intro eV eX)
 clear eV eX
 go_upto_region 10 with fail
 rw [← EV26.out.1, ← EV26.out.2]
 replace q1 := q1.below bV26
 replace q2 := q2.below bV26
 replace hS := hS.below bV26 hS.lt
 replace hL := hL.below bV26 hL.lt
 replace hW := hW.below bV26 hW.lt
 replace x3 := x3.below bV26
 replace h3 := h3.below bV26 h3.lt
 replace x4 := x4.below bV26
 replace h4 := h4.below bV26 h4.lt
 replace x5 := x5.below bV26
 replace h5 := h5.below bV26 h5.lt
 replace x7 := x7.below bV26
 replace hB := hB.trans (bV26.mono hB.size)
 clear c198 c199 c200 c201 c202 c203 c204 c205 c206 c207 c208 c209 c210 c211 c212 c213 c214 c215 c216 c217 c218 c219 c220 c221 c222 c223
 obtain ⟨c224, c225, c226, c227, c228, c229⟩ := hS.q6
 obtain ⟨c230, c231, c232, c233, c234, c235⟩ := hL.q6
 obtain ⟨c236, c237⟩ := hW.q2
 obtain ⟨c238, c239, c240⟩ := h3.q3
 obtain ⟨c241, c242, c243⟩ := h4.q3
 obtain ⟨c244, c245, c246, c247, c248, c249⟩ := h5.q6
 obtain ⟨c250, c251, c252, c253, c254, c255⟩ := h7.q6
 go_wp2_with fail
 refine (hA _).mono ?_
 rintro e w28 ⟨rfl, b28⟩
 replace hS := hS.below b28 hS.lt
 replace hL := hL.below b28 hL.lt
 replace hW := hW.below b28 hW.lt
 replace x3 := x3.below b28
 replace h3 := h3.below b28 h3.lt
 replace x4 := x4.below b28
 replace h4 := h4.below b28 h4.lt
 replace x5 := x5.below b28
 replace h5 := h5.below b28 h5.lt
 replace x7 := x7.below b28
 replace h7 := h7.below b28 h7.lt
 replace hB := hB.trans (b28.mono hB.size)
 clear c224 c225 c226 c227 c228 c229 c230 c231 c232 c233 c234 c235 c236 c237 c238 c239 c240 c241 c242 c243 c244 c245 c246 c247 c248 c249 c250 c251 c252 c253 c254 c255
 obtain ⟨c256, c257, c258, c259, c260, c261⟩ := hS.q6
 obtain ⟨c262, c263, c264, c265, c266, c267⟩ := hL.q6
 obtain ⟨c268, c269⟩ := hW.q2
 obtain ⟨c270, c271, c272⟩ := h3.q3
 obtain ⟨c273, c274, c275⟩ := h4.q3
 obtain ⟨c276, c277, c278, c279, c280, c281⟩ := h5.q6
 obtain ⟨c282, c283, c284, c285, c286, c287⟩ := h7.q6
 go_wp2_with fail
 refine (rqsame_res x3 x4).mono ?_
 rintro e w30 ⟨rfl, b30⟩
 replace hS := hS.below b30 hS.lt
 replace hL := hL.below b30 hL.lt
 replace hW := hW.below b30 hW.lt
 replace x3 := x3.below b30
 replace h3 := h3.below b30 h3.lt
 replace x4 := x4.below b30
 replace h4 := h4.below b30 h4.lt
 replace x5 := x5.below b30
 replace h5 := h5.below b30 h5.lt
 replace x7 := x7.below b30
 replace h7 := h7.below b30 h7.lt
 replace hB := hB.trans (b30.mono hB.size)
 clear c256 c257 c258 c259 c260 c261 c262 c263 c264 c265 c266 c267 c268 c269 c270 c271 c272 c273 c274 c275 c276 c277 c278 c279 c280 c281 c282 c283 c284 c285 c286 c287
 obtain ⟨c288, c289, c290, c291, c292, c293⟩ := hS.q6
 obtain ⟨c294, c295, c296, c297, c298, c299⟩ := hL.q6
 obtain ⟨c300, c301⟩ := hW.q2
 obtain ⟨c302, c303, c304⟩ := h3.q3
 obtain ⟨c305, c306, c307⟩ := h4.q3
 obtain ⟨c308, c309, c310, c311, c312, c313⟩ := h5.q6
 obtain ⟨c314, c315, c316, c317, c318, c319⟩ := h7.q6
 go_wp2_with fail
 refine (rssame_res x5 x7).mono ?_
 rintro e w32 ⟨rfl, b32⟩
 replace hS := hS.below b32 hS.lt
 replace hL := hL.below b32 hL.lt
 replace hW := hW.below b32 hW.lt
 replace x3 := x3.below b32
 replace h3 := h3.below b32 h3.lt
 replace x4 := x4.below b32
 replace h4 := h4.below b32 h4.lt
 replace x5 := x5.below b32
 replace h5 := h5.below b32 h5.lt
 replace x7 := x7.below b32
 replace h7 := h7.below b32 h7.lt
 replace hB := hB.trans (b32.mono hB.size)
 clear c288 c289 c290 c291 c292 c293 c294 c295 c296 c297 c298 c299 c300 c301 c302 c303 c304 c305 c306 c307 c308 c309 c310 c311 c312 c313 c314 c315 c316 c317 c318 c319
 obtain ⟨c320, c321, c322, c323, c324, c325⟩ := hS.q6
 obtain ⟨c326, c327, c328, c329, c330, c331⟩ := hL.q6
 obtain ⟨c332, c333⟩ := hW.q2
 obtain ⟨c334, c335, c336⟩ := h3.q3
 obtain ⟨c337, c338, c339⟩ := h4.q3
 obtain ⟨c340, c341, c342, c343, c344, c345⟩ := h5.q6
 obtain ⟨c346, c347, c348, c349, c350, c351⟩ := h7.q6
 go_wp2
 go_ret
 exact ⟨rfl, hB⟩
set_option maxRecDepth 100000 in
set_option maxHeartbeats 8000000 in
theorem TrackTells_r0 (k z m o n : Int) (A : Option Addr) (C : Nat) (bs : List Bk) (s1 s2 : Bool) (A1 D1 A2 D2 : Option Addr) (C1 E1 C2 E2 : Nat) (l1 m1 l2 m2 : List Nat) (beta f : Int) (w : World) (hs : IsSt w (.agg #[.int .i64 k, .int .i64 z, .int .i64 m, .int .i64 o, .int .i64 n, .slice A bs.length C]) (k, z, m, o, n, bs)) (hin : ∀ b ∈ bs, BkIn b) (r1 : RawQ w s1 (.slice A1 l1.length C1) (.slice D1 m1.length E1) l1 m1) (r2 : RawQ w s2 (.slice A2 l2.length C2) (.slice D2 m2.length E2) l2 m2) (hb : In64 beta) (hf : fewS bs = true) (hf1 : fewQ s1 l1 m1 3 = true) (hf2 : fewQ s2 l2 m2 3 = true) (hr : rightS (k, z, m, o, n, bs) = false) :
   Calls Tryz.prog 3 #[.agg #[.int .i64 k, .int .i64 z, .int .i64 m, .int .i64 o, .int .i64 n, .slice A bs.length C], .agg #[.bool s1, .slice A1 l1.length C1, .slice D1 m1.length E1, .bool s2, .slice A2 l2.length C2, .slice D2 m2.length E2], .agg #[.int .i64 beta, .int .i64 f]] w fun e w' => e = .returned (.bool true) ∧ Below w.heap.size w w' := by
 have hA := fun w => alive20_any w
 have hF := fun w h => rfew14_any (.agg #[.int .i64 k, .int .i64 z, .int .i64 m, .int .i64 o, .int .i64 n, .slice A bs.length C]) (k, z, m, o, n, bs) w h hin
 simp only at hF
 obtain ⟨p1, t1⟩ := r1
 obtain ⟨p2, t2⟩ := r2
 have hF1 := fun w h1 h2 => rfew5_any s1 (.slice A1 l1.length C1) (.slice D1 m1.length E1) l1 m1 3 w h1 h2 (by omega)
 have hF2 := fun w h1 h2 => rfew5_any s2 (.slice A2 l2.length C2) (.slice D2 m2.length E2) l2 m2 3 w h1 h2 (by omega)
 rw [hf] at hF
 rw [hf1] at hF1
 rw [hf2] at hF2
 unfold fewQ at hf1 hf2
 simp only [Bool.and_eq_true, decide_eq_true_eq] at hf1 hf2
 obtain ⟨q1, b1, -, -⟩ := isQ_of p1 t1 hf1.2.2
 obtain ⟨q2, b2, -, -⟩ := isQ_of p2 t2 hf2.2.2
 replace b1 := b1.more (m := 2000) (by omega)
 replace b2 := b2.more (m := 2000) (by omega)
 have hR := fun w h => rright14_any (.agg #[.int .i64 k, .int .i64 z, .int .i64 m, .int .i64 o, .int .i64 n, .slice A bs.length C]) (k, z, m, o, n, bs) w h hin
 rw [hr] at hR
 have hN1 := fun u v w hu hv => pnext_res beta f u v (theQ s1 l1 m1) (theQ s2 l2 m2) w hb hu hv b1 b2
 have hN2 := fun u v w hu hv => rnext_res beta f u v (theQ s1 l1 m1) (theQ s2 l2 m2) w hb hu hv b1 b2
 have hR1 := fun u w hu => paround_res beta f u (theQ s1 l1 m1) w hb hu b1
 have hR2 := fun u w hu => raround_res beta f u (theQ s1 l1 m1) w hb hu b1
 generalize nextQ beta f.toNat (theQ s1 l1 m1) (theQ s2 l2 m2) = rn at *
 generalize nextBad beta f (theQ s1 l1 m1) (theQ s2 l2 m2) = bn at *
 generalize mkRat beta (2 ^ f.toNat) - theQ s1 l1 m1 * mkRat 1 (2 ^ f.toNat) = ra at *
 generalize mkRat beta (2 ^ f.toNat) + theQ s1 l1 m1 * mkRat 1 (2 ^ f.toNat) = rb at *
 generalize arBad f (theQ s1 l1 m1) = ba at *
 generalize theQ s1 l1 m1 = y1 at *
 generalize theQ s2 l2 m2 = y2 at *
 generalize errOf bn = en at *
 generalize errOf ba = ea at *
 clear hf hf1 hf2 hr hin hb b1 b2
 obtain ⟨g, hg⟩ : ∃ g, g = w.heap.size := ⟨_, rfl⟩
 obtain ⟨Y0, eY0, hS, bY0⟩ := box1 w 26 #[.int .i64 k, .int .i64 z, .int .i64 m, .int .i64 o, .int .i64 n, .slice A bs.length C]
 have zY0 : Y0.heap.size = g + 1 := by rw [eY0, World.size_alloc, ← hg]
 rw [← hg] at hS
 replace q1 := q1.below bY0
 replace q2 := q2.below bY0
 replace hs := hs.below bY0
 replace p1 := p1.below bY0
 replace t1 := t1.below bY0
 replace p2 := p2.below bY0
 replace t2 := t2.below bY0
 have hB := bY0
 obtain ⟨Y1, eY1, hL, bY1⟩ := box1 Y0 33 #[.bool s1, .slice A1 l1.length C1, .slice D1 m1.length E1, .bool s2, .slice A2 l2.length C2, .slice D2 m2.length E2]
 have zY1 : Y1.heap.size = g + 1 + 1 := by rw [eY1, World.size_alloc, zY0]
 rw [zY0] at hL
 replace hS := hS.below bY1 hS.lt
 replace q1 := q1.below bY1
 replace q2 := q2.below bY1
 replace hs := hs.below bY1
 replace p1 := p1.below bY1
 replace t1 := t1.below bY1
 replace p2 := p2.below bY1
 replace t2 := t2.below bY1
 replace hB := hB.trans (bY1.mono hB.size)
 obtain ⟨Y2, eY2, hW, bY2⟩ := box1 Y1 34 #[.int .i64 beta, .int .i64 f]
 have zY2 : Y2.heap.size = g + 1 + 1 + 1 := by rw [eY2, World.size_alloc, zY1]
 rw [zY1] at hW
 replace hS := hS.below bY2 hS.lt
 replace hL := hL.below bY2 hL.lt
 replace q1 := q1.below bY2
 replace q2 := q2.below bY2
 replace hs := hs.below bY2
 replace p1 := p1.below bY2
 replace t1 := t1.below bY2
 replace p2 := p2.below bY2
 replace t2 := t2.below bY2
 replace hB := hB.trans (bY2.mono hB.size)
 have hgw : w.heap.size ≤ g := by omega
 have EY := Lib.hid (And.intro hg (And.intro eY0 (And.intro eY1 eY2)))
 clear hg eY0 zY0 eY1 zY1 eY2 zY2
 obtain ⟨c0, c1, c2, c3, c4, c5⟩ := hS.q6
 obtain ⟨c6, c7, c8, c9, c10, c11⟩ := hL.q6
 obtain ⟨c12, c13⟩ := hW.q2
 go_enter Tryz.func3, Tryz.ntmps3
 go_upto_region 1 with fail
 rw [← EY.out.2.1, ← EY.out.2.2.1, ← EY.out.2.2.2, ← EY.out.1]
 replace hB := hB.drew
 replace q1 := q1.below (bdrew _)
 replace q2 := q2.below (bdrew _)
 replace hs := hs.below (bdrew _)
 replace p1 := p1.below (bdrew _)
 replace t1 := t1.below (bdrew _)
 replace p2 := p2.below (bdrew _)
 replace t2 := t2.below (bdrew _)
 replace hS := hS.drew
 replace hL := hL.drew
 replace hW := hW.drew
 clear c0 c1 c2 c3 c4 c5 c6 c7 c8 c9 c10 c11 c12 c13
 refine wp_region_noPanic ?_
 refine wp_region_held_drew (S := fun w' => w'.cell? ⟨g + 1 + 1, 0, none⟩ = some (.int .i64 beta) ∧ w'.cell? ⟨g + 1 + 1, 1, none⟩ = some (.int .i64 f)) (by kernel_rfl) ?_ (fun hHeld => ?_)
 · exact ⟨hW.cell 0, hW.cell 1⟩
 obtain ⟨wd1_1, hwd⟩ : ∃ q, q = Y2.drew := ⟨_, rfl⟩
 rw [← hwd] at hB q1 q2 hs p1 t1 p2 t2 hS hL hW hHeld ⊢
 clear hwd
 refine tkH 0 rfl (v := ?v31) ?h31 ?r31
 case h31 => intro w hSw; (try dsimp only at hSw); go_simp; try (with_reducible rfl)
 refine tkH 1 rfl (v := ?v32) ?h32 ?r32
 case h32 => intro w hSw; (try dsimp only at hSw); go_simp; try (with_reducible rfl)
 refine tkH 2 rfl (v := ?v33) ?h33 ?r33
 case h33 => intro w hSw; (try dsimp only at hSw); go_simp; try (with_reducible rfl)
 refine tkH 3 rfl (v := ?v34) ?h34 ?r34
 case h34 => intro w hSw; (try dsimp only at hSw); go_simp; try (with_reducible rfl)
 refine tkH 4 rfl (v := ?v35) ?h35 ?r35
 case h35 => intro w hSw; (try dsimp only at hSw); go_simp; try (with_reducible rfl)
 refine tkH 5 rfl (v := ?v36) ?h36 ?r36
 case h36 => intro w hSw; (try dsimp only at hSw); go_simp; try (with_reducible rfl)
 try simp only [Act.put, lay1, lay2, lay3, lay4, lay5, lay6]
 try dsimp only
 try simp only [Act.put, lay1, lay2, lay3, lay4, lay5, lay6]
 refine wpAnyH_done (by kernel_rfl) ?_ _
 refine NoPanic.normal ?_
 skip
 obtain ⟨c14, c15, c16, c17, c18, c19⟩ := hS.q6
 obtain ⟨c20, c21, c22, c23, c24, c25⟩ := hL.q6
 obtain ⟨c26, c27⟩ := hW.q2
 go_wp2_with fail
 refine (hF _ hs).mono ?_
 rintro e w4 ⟨rfl, b4⟩
 replace q1 := q1.below b4
 replace q2 := q2.below b4
 replace hs := hs.below b4
 replace p1 := p1.below b4
 replace t1 := t1.below b4
 replace p2 := p2.below b4
 replace t2 := t2.below b4
 replace hS := hS.below b4 hS.lt
 replace hL := hL.below b4 hL.lt
 replace hW := hW.below b4 hW.lt
 replace hB := hB.trans (b4.mono hB.size)
 clear c14 c15 c16 c17 c18 c19 c20 c21 c22 c23 c24 c25 c26 c27
 obtain ⟨c28, c29, c30, c31, c32, c33⟩ := hS.q6
 obtain ⟨c34, c35, c36, c37, c38, c39⟩ := hL.q6
 obtain ⟨c40, c41⟩ := hW.q2
 go_wp2_with fail
 refine (hF1 _ p1 t1).mono ?_
 rintro e w6 ⟨rfl, b6⟩
 replace q1 := q1.below b6
 replace q2 := q2.below b6
 replace hs := hs.below b6
 replace p1 := p1.below b6
 replace t1 := t1.below b6
 replace p2 := p2.below b6
 replace t2 := t2.below b6
 replace hS := hS.below b6 hS.lt
 replace hL := hL.below b6 hL.lt
 replace hW := hW.below b6 hW.lt
 replace hB := hB.trans (b6.mono hB.size)
 clear c28 c29 c30 c31 c32 c33 c34 c35 c36 c37 c38 c39 c40 c41
 obtain ⟨c42, c43, c44, c45, c46, c47⟩ := hS.q6
 obtain ⟨c48, c49, c50, c51, c52, c53⟩ := hL.q6
 obtain ⟨c54, c55⟩ := hW.q2
 go_wp2_with fail
 refine (hF2 _ p2 t2).mono ?_
 rintro e w8 ⟨rfl, b8⟩
 replace q1 := q1.below b8
 replace q2 := q2.below b8
 replace hs := hs.below b8
 replace p1 := p1.below b8
 replace t1 := t1.below b8
 replace p2 := p2.below b8
 replace t2 := t2.below b8
 replace hS := hS.below b8 hS.lt
 replace hL := hL.below b8 hL.lt
 replace hW := hW.below b8 hW.lt
 replace hB := hB.trans (b8.mono hB.size)
 clear c42 c43 c44 c45 c46 c47 c48 c49 c50 c51 c52 c53 c54 c55
 obtain ⟨c56, c57, c58, c59, c60, c61⟩ := hS.q6
 obtain ⟨c62, c63, c64, c65, c66, c67⟩ := hL.q6
 obtain ⟨c68, c69⟩ := hW.q2
 go_upto_region 4 with fail
 replace hB := hB.drew
 replace q1 := q1.below (bdrew _)
 replace q2 := q2.below (bdrew _)
 replace hs := hs.below (bdrew _)
 replace hS := hS.drew
 replace hL := hL.drew
 replace hW := hW.drew
 clear c56 c57 c58 c59 c60 c61 c62 c63 c64 c65 c66 c67 c68 c69
 refine wp_region_noPanic ?_
 refine wp_region_held_drew (S := fun w' => w'.cell? ⟨g, 0, none⟩ = some (.int .i64 k) ∧ w'.cell? ⟨g, 1, none⟩ = some (.int .i64 z) ∧ w'.cell? ⟨g, 2, none⟩ = some (.int .i64 m) ∧ w'.cell? ⟨g, 3, none⟩ = some (.int .i64 o) ∧ w'.cell? ⟨g, 4, none⟩ = some (.int .i64 n) ∧ w'.cell? ⟨g, 5, none⟩ = some (.slice A bs.length C)) (by kernel_rfl) ?_ (fun hHeld => ?_)
 · exact ⟨hS.cell 0, hS.cell 1, hS.cell 2, hS.cell 3, hS.cell 4, hS.cell 5⟩
 obtain ⟨wd4_2, hwd⟩ : ∃ q, q = w8.drew := ⟨_, rfl⟩
 rw [← hwd] at hB q1 q2 hs hS hL hW hHeld ⊢
 clear hwd
 refine tkH 0 rfl (v := ?v37) ?h37 ?r37
 case h37 => intro w hSw; (try dsimp only at hSw); go_simp; try (with_reducible rfl)
 try simp only [Act.put, lay1, lay3, lay4, lay5, lay6]
 refine wpAnyH_ready (rs := [1]) (by kernel_rfl) (by simp) (AllReadyH.cons rfl (fun K hK => ?_) AllReadyH.nil)
 go_simp
 refine (hR _ hs).mono ?_
 rintro e u4_1 ⟨rfl, b4_1⟩
 replace q1 := q1.below b4_1
 replace q2 := q2.below b4_1
 replace hs := hs.below b4_1
 replace hS := hS.below b4_1 hS.lt
 replace hL := hL.below b4_1 hL.lt
 replace hW := hW.below b4_1 hW.lt
 replace hB := hB.trans (b4_1.mono hB.size)
 go_wp2_with fail
 refine hK.out _ _ ?_ (fun hHeld => ?_)
 · exact ⟨hS.cell 0, hS.cell 1, hS.cell 2, hS.cell 3, hS.cell 4, hS.cell 5⟩
 clear hK K
 refine tkH 2 rfl (v := ?v38) ?h38 ?r38
 case h38 => intro w hSw; (try dsimp only at hSw); go_simp; try (with_reducible rfl)
 refine tkS 3 rfl ?_
 refine tkS 4 rfl ?_
 refine tkS 5 rfl ?_
 refine tkS 6 rfl ?_
 refine tkS 7 rfl ?_
 refine tkS 8 rfl ?_
 refine tkH 9 rfl (v := ?v45) ?h45 ?r45
 case h45 => intro w hSw; (try dsimp only at hSw); go_simp; try (with_reducible rfl)
 try simp only [Act.put, lay1, lay2, lay3, lay4, lay5, lay6]
 try dsimp only
 try simp only [Act.put, lay1, lay2, lay3, lay4, lay5, lay6]
 refine wpAnyH_done (by kernel_rfl) ?_ _
 refine NoPanic.normal ?_
 skip
 obtain ⟨c70, c71, c72, c73, c74, c75⟩ := hS.q6
 obtain ⟨c76, c77, c78, c79, c80, c81⟩ := hL.q6
 obtain ⟨c82, c83⟩ := hW.q2
 go_wp2_with fail
 refine (hN1 _ _ _ q1 q2).mono ?_
 rintro e w12 ⟨v3, rfl, x3, b12⟩
 replace q1 := q1.below b12
 replace q2 := q2.below b12
 replace hS := hS.below b12 hS.lt
 replace hL := hL.below b12 hL.lt
 replace hW := hW.below b12 hW.lt
 replace hB := hB.trans (b12.mono hB.size)
 clear c70 c71 c72 c73 c74 c75 c76 c77 c78 c79 c80 c81 c82 c83
 obtain ⟨c84, c85, c86, c87, c88, c89⟩ := hS.q6
 obtain ⟨c90, c91, c92, c93, c94, c95⟩ := hL.q6
 obtain ⟨c96, c97⟩ := hW.q2
 obtain ⟨s3, A3, L3, C3, D3, M3, E3, rfl, x3⟩ := x3.opn
 obtain ⟨V14, eV, h3, bV14⟩ := box1 w12 32 #[.bool s3, .slice A3 L3 C3, .slice D3 M3 E3]
 obtain ⟨X14, eX⟩ : ∃ X, X = w12.heap.size := ⟨_, rfl⟩
 rw [← eX] at h3
 have lX14 : w.heap.size ≤ X14 := by rw [eX]; exact hB.size
 have dX14_hS : g ≠ X14 := by have := hS.lt; omega
 have dX14_hL : g + 1 ≠ X14 := by have := hL.lt; omega
 have dX14_hW : g + 1 + 1 ≠ X14 := by have := hW.lt; omega
 have EV14 := Lib.hid (And.intro eV eX)
 clear eV eX
 go_upto_region 7 with fail
 rw [← EV14.out.1, ← EV14.out.2]
 replace q1 := q1.below bV14
 replace q2 := q2.below bV14
 replace hS := hS.below bV14 hS.lt
 replace hL := hL.below bV14 hL.lt
 replace hW := hW.below bV14 hW.lt
 replace x3 := x3.below bV14
 replace hB := hB.trans (bV14.mono hB.size)
 clear c84 c85 c86 c87 c88 c89 c90 c91 c92 c93 c94 c95 c96 c97
 obtain ⟨c98, c99, c100, c101, c102, c103⟩ := hS.q6
 obtain ⟨c104, c105, c106, c107, c108, c109⟩ := hL.q6
 obtain ⟨c110, c111⟩ := hW.q2
 obtain ⟨c112, c113, c114⟩ := h3.q3
 go_wp2_with fail
 refine (hN2 _ _ _ q1 q2).mono ?_
 rintro e w16 ⟨v4, rfl, x4, b16⟩
 replace q1 := q1.below b16
 replace q2 := q2.below b16
 replace hS := hS.below b16 hS.lt
 replace hL := hL.below b16 hL.lt
 replace hW := hW.below b16 hW.lt
 replace x3 := x3.below b16
 replace h3 := h3.below b16 h3.lt
 replace hB := hB.trans (b16.mono hB.size)
 clear c98 c99 c100 c101 c102 c103 c104 c105 c106 c107 c108 c109 c110 c111 c112 c113 c114
 obtain ⟨c115, c116, c117, c118, c119, c120⟩ := hS.q6
 obtain ⟨c121, c122, c123, c124, c125, c126⟩ := hL.q6
 obtain ⟨c127, c128⟩ := hW.q2
 obtain ⟨c129, c130, c131⟩ := h3.q3
 obtain ⟨s4, A4, L4, C4, D4, M4, E4, rfl, x4⟩ := x4.opn
 obtain ⟨V18, eV, h4, bV18⟩ := box1 w16 32 #[.bool s4, .slice A4 L4 C4, .slice D4 M4 E4]
 obtain ⟨X18, eX⟩ : ∃ X, X = w16.heap.size := ⟨_, rfl⟩
 rw [← eX] at h4
 have lX18 : w.heap.size ≤ X18 := by rw [eX]; exact hB.size
 have dX18_hS : g ≠ X18 := by have := hS.lt; omega
 have dX18_hL : g + 1 ≠ X18 := by have := hL.lt; omega
 have dX18_hW : g + 1 + 1 ≠ X18 := by have := hW.lt; omega
 have dX18_h3 : X14 ≠ X18 := by have := h3.lt; omega
 have EV18 := Lib.hid (And.intro eV eX)
 clear eV eX
 go_upto_region 8 with fail
 rw [← EV18.out.1, ← EV18.out.2]
 replace q1 := q1.below bV18
 replace q2 := q2.below bV18
 replace hS := hS.below bV18 hS.lt
 replace hL := hL.below bV18 hL.lt
 replace hW := hW.below bV18 hW.lt
 replace x3 := x3.below bV18
 replace h3 := h3.below bV18 h3.lt
 replace x4 := x4.below bV18
 replace hB := hB.trans (bV18.mono hB.size)
 clear c115 c116 c117 c118 c119 c120 c121 c122 c123 c124 c125 c126 c127 c128 c129 c130 c131
 obtain ⟨c132, c133, c134, c135, c136, c137⟩ := hS.q6
 obtain ⟨c138, c139, c140, c141, c142, c143⟩ := hL.q6
 obtain ⟨c144, c145⟩ := hW.q2
 obtain ⟨c146, c147, c148⟩ := h3.q3
 obtain ⟨c149, c150, c151⟩ := h4.q3
 go_wp2_with fail
 refine (hR1 _ _ q1).mono ?_
 rintro e w20 ⟨v5, rfl, x5, b20⟩
 replace q1 := q1.below b20
 replace q2 := q2.below b20
 replace hS := hS.below b20 hS.lt
 replace hL := hL.below b20 hL.lt
 replace hW := hW.below b20 hW.lt
 replace x3 := x3.below b20
 replace h3 := h3.below b20 h3.lt
 replace x4 := x4.below b20
 replace h4 := h4.below b20 h4.lt
 replace hB := hB.trans (b20.mono hB.size)
 clear c132 c133 c134 c135 c136 c137 c138 c139 c140 c141 c142 c143 c144 c145 c146 c147 c148 c149 c150 c151
 obtain ⟨c152, c153, c154, c155, c156, c157⟩ := hS.q6
 obtain ⟨c158, c159, c160, c161, c162, c163⟩ := hL.q6
 obtain ⟨c164, c165⟩ := hW.q2
 obtain ⟨c166, c167, c168⟩ := h3.q3
 obtain ⟨c169, c170, c171⟩ := h4.q3
 obtain ⟨s5, A5, L5, C5, D5, M5, E5, s6, A6, L6, C6, D6, M6, E6, rfl, x5⟩ := x5.opn
 obtain ⟨V22, eV, h5, bV22⟩ := box1 w20 46 #[.bool s5, .slice A5 L5 C5, .slice D5 M5 E5, .bool s6, .slice A6 L6 C6, .slice D6 M6 E6]
 obtain ⟨X22, eX⟩ : ∃ X, X = w20.heap.size := ⟨_, rfl⟩
 rw [← eX] at h5
 have lX22 : w.heap.size ≤ X22 := by rw [eX]; exact hB.size
 have dX22_hS : g ≠ X22 := by have := hS.lt; omega
 have dX22_hL : g + 1 ≠ X22 := by have := hL.lt; omega
 have dX22_hW : g + 1 + 1 ≠ X22 := by have := hW.lt; omega
 have dX22_h3 : X14 ≠ X22 := by have := h3.lt; omega
 have dX22_h4 : X18 ≠ X22 := by have := h4.lt; omega
 have EV22 := Lib.hid (And.intro eV eX)
 clear eV eX
 go_upto_region 9 with fail
 rw [← EV22.out.1, ← EV22.out.2]
 replace q1 := q1.below bV22
 replace q2 := q2.below bV22
 replace hS := hS.below bV22 hS.lt
 replace hL := hL.below bV22 hL.lt
 replace hW := hW.below bV22 hW.lt
 replace x3 := x3.below bV22
 replace h3 := h3.below bV22 h3.lt
 replace x4 := x4.below bV22
 replace h4 := h4.below bV22 h4.lt
 replace x5 := x5.below bV22
 replace hB := hB.trans (bV22.mono hB.size)
 clear c152 c153 c154 c155 c156 c157 c158 c159 c160 c161 c162 c163 c164 c165 c166 c167 c168 c169 c170 c171
 obtain ⟨c172, c173, c174, c175, c176, c177⟩ := hS.q6
 obtain ⟨c178, c179, c180, c181, c182, c183⟩ := hL.q6
 obtain ⟨c184, c185⟩ := hW.q2
 obtain ⟨c186, c187, c188⟩ := h3.q3
 obtain ⟨c189, c190, c191⟩ := h4.q3
 obtain ⟨c192, c193, c194, c195, c196, c197⟩ := h5.q6
 go_wp2_with fail
 refine (hR2 _ _ q1).mono ?_
 rintro e w24 ⟨v7, rfl, x7, b24⟩
 replace q1 := q1.below b24
 replace q2 := q2.below b24
 replace hS := hS.below b24 hS.lt
 replace hL := hL.below b24 hL.lt
 replace hW := hW.below b24 hW.lt
 replace x3 := x3.below b24
 replace h3 := h3.below b24 h3.lt
 replace x4 := x4.below b24
 replace h4 := h4.below b24 h4.lt
 replace x5 := x5.below b24
 replace h5 := h5.below b24 h5.lt
 replace hB := hB.trans (b24.mono hB.size)
 clear c172 c173 c174 c175 c176 c177 c178 c179 c180 c181 c182 c183 c184 c185 c186 c187 c188 c189 c190 c191 c192 c193 c194 c195 c196 c197
 obtain ⟨c198, c199, c200, c201, c202, c203⟩ := hS.q6
 obtain ⟨c204, c205, c206, c207, c208, c209⟩ := hL.q6
 obtain ⟨c210, c211⟩ := hW.q2
 obtain ⟨c212, c213, c214⟩ := h3.q3
 obtain ⟨c215, c216, c217⟩ := h4.q3
 obtain ⟨c218, c219, c220, c221, c222, c223⟩ := h5.q6
 obtain ⟨s7, A7, L7, C7, D7, M7, E7, s8, A8, L8, C8, D8, M8, E8, rfl, x7⟩ := x7.opn
 obtain ⟨V26, eV, h7, bV26⟩ := box1 w24 46 #[.bool s7, .slice A7 L7 C7, .slice D7 M7 E7, .bool s8, .slice A8 L8 C8, .slice D8 M8 E8]
 obtain ⟨X26, eX⟩ : ∃ X, X = w24.heap.size := ⟨_, rfl⟩
 rw [← eX] at h7
 have lX26 : w.heap.size ≤ X26 := by rw [eX]; exact hB.size
 have dX26_hS : g ≠ X26 := by have := hS.lt; omega
 have dX26_hL : g + 1 ≠ X26 := by have := hL.lt; omega
 have dX26_hW : g + 1 + 1 ≠ X26 := by have := hW.lt; omega
 have dX26_h3 : X14 ≠ X26 := by have := h3.lt; omega
 have dX26_h4 : X18 ≠ X26 := by have := h4.lt; omega
 have dX26_h5 : X22 ≠ X26 := by have := h5.lt; omega
 have EV26 := Lib.hid (And.intro eV eX)
 clear eV eX
 go_upto_region 10 with fail
 rw [← EV26.out.1, ← EV26.out.2]
 replace q1 := q1.below bV26
 replace q2 := q2.below bV26
 replace hS := hS.below bV26 hS.lt
 replace hL := hL.below bV26 hL.lt
 replace hW := hW.below bV26 hW.lt
 replace x3 := x3.below bV26
 replace h3 := h3.below bV26 h3.lt
 replace x4 := x4.below bV26
 replace h4 := h4.below bV26 h4.lt
 replace x5 := x5.below bV26
 replace h5 := h5.below bV26 h5.lt
 replace x7 := x7.below bV26
 replace hB := hB.trans (bV26.mono hB.size)
 clear c198 c199 c200 c201 c202 c203 c204 c205 c206 c207 c208 c209 c210 c211 c212 c213 c214 c215 c216 c217 c218 c219 c220 c221 c222 c223
 obtain ⟨c224, c225, c226, c227, c228, c229⟩ := hS.q6
 obtain ⟨c230, c231, c232, c233, c234, c235⟩ := hL.q6
 obtain ⟨c236, c237⟩ := hW.q2
 obtain ⟨c238, c239, c240⟩ := h3.q3
 obtain ⟨c241, c242, c243⟩ := h4.q3
 obtain ⟨c244, c245, c246, c247, c248, c249⟩ := h5.q6
 obtain ⟨c250, c251, c252, c253, c254, c255⟩ := h7.q6
 go_wp2_with fail
 refine (hA _).mono ?_
 rintro e w28 ⟨rfl, b28⟩
 replace hS := hS.below b28 hS.lt
 replace hL := hL.below b28 hL.lt
 replace hW := hW.below b28 hW.lt
 replace x3 := x3.below b28
 replace h3 := h3.below b28 h3.lt
 replace x4 := x4.below b28
 replace h4 := h4.below b28 h4.lt
 replace x5 := x5.below b28
 replace h5 := h5.below b28 h5.lt
 replace x7 := x7.below b28
 replace h7 := h7.below b28 h7.lt
 replace hB := hB.trans (b28.mono hB.size)
 clear c224 c225 c226 c227 c228 c229 c230 c231 c232 c233 c234 c235 c236 c237 c238 c239 c240 c241 c242 c243 c244 c245 c246 c247 c248 c249 c250 c251 c252 c253 c254 c255
 obtain ⟨c256, c257, c258, c259, c260, c261⟩ := hS.q6
 obtain ⟨c262, c263, c264, c265, c266, c267⟩ := hL.q6
 obtain ⟨c268, c269⟩ := hW.q2
 obtain ⟨c270, c271, c272⟩ := h3.q3
 obtain ⟨c273, c274, c275⟩ := h4.q3
 obtain ⟨c276, c277, c278, c279, c280, c281⟩ := h5.q6
 obtain ⟨c282, c283, c284, c285, c286, c287⟩ := h7.q6
 go_wp2_with fail
 refine (rqsame_res x3 x4).mono ?_
 rintro e w30 ⟨rfl, b30⟩
 replace hS := hS.below b30 hS.lt
 replace hL := hL.below b30 hL.lt
 replace hW := hW.below b30 hW.lt
 replace x3 := x3.below b30
 replace h3 := h3.below b30 h3.lt
 replace x4 := x4.below b30
 replace h4 := h4.below b30 h4.lt
 replace x5 := x5.below b30
 replace h5 := h5.below b30 h5.lt
 replace x7 := x7.below b30
 replace h7 := h7.below b30 h7.lt
 replace hB := hB.trans (b30.mono hB.size)
 clear c256 c257 c258 c259 c260 c261 c262 c263 c264 c265 c266 c267 c268 c269 c270 c271 c272 c273 c274 c275 c276 c277 c278 c279 c280 c281 c282 c283 c284 c285 c286 c287
 obtain ⟨c288, c289, c290, c291, c292, c293⟩ := hS.q6
 obtain ⟨c294, c295, c296, c297, c298, c299⟩ := hL.q6
 obtain ⟨c300, c301⟩ := hW.q2
 obtain ⟨c302, c303, c304⟩ := h3.q3
 obtain ⟨c305, c306, c307⟩ := h4.q3
 obtain ⟨c308, c309, c310, c311, c312, c313⟩ := h5.q6
 obtain ⟨c314, c315, c316, c317, c318, c319⟩ := h7.q6
 go_wp2_with fail
 refine (rssame_res x5 x7).mono ?_
 rintro e w32 ⟨rfl, b32⟩
 replace hS := hS.below b32 hS.lt
 replace hL := hL.below b32 hL.lt
 replace hW := hW.below b32 hW.lt
 replace x3 := x3.below b32
 replace h3 := h3.below b32 h3.lt
 replace x4 := x4.below b32
 replace h4 := h4.below b32 h4.lt
 replace x5 := x5.below b32
 replace h5 := h5.below b32 h5.lt
 replace x7 := x7.below b32
 replace h7 := h7.below b32 h7.lt
 replace hB := hB.trans (b32.mono hB.size)
 clear c288 c289 c290 c291 c292 c293 c294 c295 c296 c297 c298 c299 c300 c301 c302 c303 c304 c305 c306 c307 c308 c309 c310 c311 c312 c313 c314 c315 c316 c317 c318 c319
 obtain ⟨c320, c321, c322, c323, c324, c325⟩ := hS.q6
 obtain ⟨c326, c327, c328, c329, c330, c331⟩ := hL.q6
 obtain ⟨c332, c333⟩ := hW.q2
 obtain ⟨c334, c335, c336⟩ := h3.q3
 obtain ⟨c337, c338, c339⟩ := h4.q3
 obtain ⟨c340, c341, c342, c343, c344, c345⟩ := h5.q6
 obtain ⟨c346, c347, c348, c349, c350, c351⟩ := h7.q6
 go_wp2
 go_ret
 exact ⟨rfl, hB⟩
theorem TrackTells_all (k z m o n : Int) (A : Option Addr) (C : Nat) (bs : List Bk) (s1 s2 : Bool) (A1 D1 A2 D2 : Option Addr) (C1 E1 C2 E2 : Nat) (l1 m1 l2 m2 : List Nat) (beta f : Int) (w : World) (hs : IsSt w (.agg #[.int .i64 k, .int .i64 z, .int .i64 m, .int .i64 o, .int .i64 n, .slice A bs.length C]) (k, z, m, o, n, bs)) (hin : ∀ b ∈ bs, BkIn b) (r1 : RawQ w s1 (.slice A1 l1.length C1) (.slice D1 m1.length E1) l1 m1) (r2 : RawQ w s2 (.slice A2 l2.length C2) (.slice D2 m2.length E2) l2 m2) (hb : In64 beta) :
   Calls Tryz.prog 3 #[.agg #[.int .i64 k, .int .i64 z, .int .i64 m, .int .i64 o, .int .i64 n, .slice A bs.length C], .agg #[.bool s1, .slice A1 l1.length C1, .slice D1 m1.length E1, .bool s2, .slice A2 l2.length C2, .slice D2 m2.length E2], .agg #[.int .i64 beta, .int .i64 f]] w fun e w' => e = .returned (.bool true) ∧ Below w.heap.size w w' := by
 cases hf : fewS bs
 · exact TrackTells_u1 k z m o n A C bs s1 s2 A1 D1 A2 D2 C1 E1 C2 E2 l1 m1 l2 m2 beta f w hs hin r1 r2 hb hf
 cases hf1 : fewQ s1 l1 m1 3
 · exact TrackTells_u2 k z m o n A C bs s1 s2 A1 D1 A2 D2 C1 E1 C2 E2 l1 m1 l2 m2 beta f w hs hin r1 r2 hb hf hf1
 cases hf2 : fewQ s2 l2 m2 3
 · exact TrackTells_u3 k z m o n A C bs s1 s2 A1 D1 A2 D2 C1 E1 C2 E2 l1 m1 l2 m2 beta f w hs hin r1 r2 hb hf hf1 hf2
 cases hr : rightS (k, z, m, o, n, bs)
 · exact TrackTells_r0 k z m o n A C bs s1 s2 A1 D1 A2 D2 C1 E1 C2 E2 l1 m1 l2 m2 beta f w hs hin r1 r2 hb hf hf1 hf2 hr
 · exact TrackTells_r1 k z m o n A C bs s1 s2 A1 D1 A2 D2 C1 E1 C2 E2 l1 m1 l2 m2 beta f w hs hin r1 r2 hb hf hf1 hf2 hr
end Go.Proofs.YtdnjdglekifhpaaGreat
namespace Go.Proofs.YtdnjdglekifhpaaGreat
open Go.ChangeShapes Go.WideShapes Go.ChangeAt Go.RowKit
set_option maxRecDepth 100000 in
theorem TrackTells_walk : LawWalk 3 Tryz.f3 := by
 intro W base args H enc ds p hval hA hlt hz
 rw [show Tryz.f3.params.toList = [26, 33, 34] from rfl] at hA hz
 obtain ⟨va, vb, vc, da, db, dc, pa, pb, pc, rfl, rfl, rfl, ha, hb, hc⟩ := trodAll_three hA
 have hz' : ∀ n ∈ DataW.weightsEach Tryz.prog [26, 33, 34] [da, db, dc], n ≤ reachBytes := fun n hn => by
   have := List.all_eq_true.1 hz n hn
   simpa using this
 obtain ⟨s, hs, _, hin⟩ := open_store (hval 0 26 va rfl rfl) ha (fun x hx => hlt x (by simp [hx])) (weights_at11 hz' (j := 0) rfl rfl)
 obtain ⟨s1, p1, t1, s2, p2, t2, l1, m1, l2, m2, rfl, ⟨h1, h2⟩, ⟨h3, h4⟩⟩ := open_rat2 (hval 1 33 vb rfl rfl) hb (fun x hx => hlt x (by simp [hx]))
 obtain ⟨beta, f, rfl, i1, _⟩ := open_int2 (hval 2 34 vc rfl rfl) hc
 obtain ⟨k, z, m, o, n, bs⟩ := s
 obtain ⟨x, rfl, hbs⟩ := hs
 simp only at *
 obtain ⟨A, C, rfl, _, _⟩ := hbs.len
 obtain ⟨A1, C1, rfl, _, _⟩ := id h1.frmL
 obtain ⟨D1, E1, rfl, _, _⟩ := id h2.frmL
 obtain ⟨A2, C2, rfl, _, _⟩ := id h3.frmL
 obtain ⟨D2, E2, rfl, _, _⟩ := id h4.frmL
 exact TrackTells_all k z m o n A C bs s1 s2 A1 D1 A2 D2 C1 E1 C2 E2 l1 m1 l2 m2 beta f W ⟨_, rfl, hbs⟩ hin ⟨h1, h2⟩ ⟨h3, h4⟩ i1
set_option maxRecDepth 100000 in
theorem TrackTells_holds : Rows.TrackTellsSaid :=
 OpenClaim.holds_of_wide 3 Tryz.f3 rfl rfl rfl rfl rfl rfl rfl ⟨rfl, rfl, rfl, rfl, rfl⟩ rfl rfl rfl rfl rfl (by kernel_rfl) Tryz.func3 (by kernel_rfl)
   (of_decide_eq_true (by kernel_rfl)) (by unfold Func.isWrapper; first | (rw [if_pos (by decide +kernel)]; kernel_rfl) | (rw [if_neg (by decide +kernel)]; exact ⟨rfl, rfl⟩))
   (fun os started H enc _ => law_lifted 3 Tryz.f3 Rows.trackTellsSpec Rows.trackTellsRow.domain rfl rfl rfl Tryz.func3 (by kernel_rfl) (by decide +kernel)
     (fun H ds h => by
       have h' : ds.length = 3 := h
       match ds, h' with
       | [_, _, _], _ => exact ⟨rfl, rfl, rfl⟩)
     (fun os _ H enc => ChangeSpec.witness6 (enc := enc) (C := Tryz.checked) false ⟨#[], #[.agg #[.int .i64 0, .int .i64 0, .int .i64 0, .int .i64 0, .int .i64 0, .slice none 0 0], .agg #[.bool false, .slice none 0 0, .slice none 0 0, .bool false, .slice none 0 0, .slice none 0 0], .agg #[.int .i64 0, .int .i64 0]], []⟩ 8 (by kernel_rfl) (by kernel_rfl) (by kernel_rfl) (by kernel_rfl))
     TrackTells_walk os started H enc)
end Go.Proofs.YtdnjdglekifhpaaGreat
