/- A part of the proof of: IN: of intervals in others all updates are in theirs. No conditions: every input. -/
import Derived.Test.YtdnjdglekifhpaaGreatTec
namespace Go.Proofs.YtdnjdglekifhpaaGreat
open Go.RowKit
attribute [local go_sem ↓] Go.wp_at_zero Go.wp_at_succ
set_option maxRecDepth 100000 in
set_option maxHeartbeats 8000000 in
theorem pupd_any (lr b1 b2 eps wd : Int) (apart : Bool) (k t : Nat) (v1 v2 : Value) (ra rb rc rd : Rat) (w : World) (hr : rightA lr b1 b2 eps wd (k : Int) = true) (i1 : In64 lr) (i2 : In64 b1) (i3 : In64 b2) (i4 : In64 eps) (ht1 : 1 ≤ t) (ht2 : t ≤ 30) (h1 : IsS w v1 ra rb) (h2 : IsS w v2 rc rd) (b0 : BQ ra 10) (b0' : BQ rb 10) (b2' : BQ rc 10) (b3 : BQ rd 10) (n1 : ¬ rd.num < 0)
   (A1 D1 A2 D2 A3 D3 A4 D4 : Option Addr) (L1 C1 M1 E1 L2 C2 M2 E2 L3 C3 M3 E3 L4 C4 M4 E4 : Nat) (s1 s2 s3 s4 : Bool) (e1 : v1 = .agg #[.bool s1, .slice A1 L1 C1, .slice D1 M1 E1, .bool s2, .slice A2 L2 C2, .slice D2 M2 E2]) (e2 : v2 = .agg #[.bool s3, .slice A3 L3 C3, .slice D3 M3 E3, .bool s4, .slice A4 L4 C4, .slice D4 M4 E4]) :
   Calls Tryz.prog 32 #[.agg #[.int .i64 lr, .int .i64 b1, .int .i64 b2, .int .i64 eps, .int .i64 wd, .bool apart], .int .i64 k, .int .i64 t, .agg #[.bool s1, .slice A1 L1 C1, .slice D1 M1 E1, .bool s2, .slice A2 L2 C2, .slice D2 M2 E2, .bool s3, .slice A3 L3 C3, .slice D3 M3 E3, .bool s4, .slice A4 L4 C4, .slice D4 M4 E4]] w fun e w' => ∃ v', e = .returned (.tuple #[v', .int .i64 0]) ∧ IsS w' v' (updLo (1 - powQ (mkRat b1 (2 ^ k)) t) (1 - powQ (mkRat b2 (2 ^ k)) t) (mkRat eps (2 ^ k)) (mkRat lr (2 ^ k)) ra rb (if rc.num < 0 then 0 else rc) rd) (updHi (1 - powQ (mkRat b1 (2 ^ k)) t) (1 - powQ (mkRat b2 (2 ^ k)) t) (mkRat eps (2 ^ k)) (mkRat lr (2 ^ k)) ra rb (if rc.num < 0 then 0 else rc) rd) ∧ Below w.heap.size w w' := by
 subst e1
 subst e2
 obtain ⟨s1_, p, q, s2_, x, y, e, q1, q2⟩ := h1
 cases e
 obtain ⟨s3_, p, q, s4_, x, y, e, q3, q4⟩ := h2
 cases e
 have e3 := q3.parts.1
 obtain ⟨z, ez⟩ : ∃ z : Rat, z = if rc.num < 0 then 0 else rc := ⟨_, rfl⟩
 have HZ := Lib.hid (show (s3 = true → z = 0) ∧ (s3 = false → z = rc) from ⟨fun h => by rw [ez, if_pos (of_decide_eq_true (e3.symm.trans h))], fun h => by rw [ez, if_neg (of_decide_eq_false (e3.symm.trans h))]⟩)
 obtain rfl : s4 = false := by rw [q4.parts.1]; exact decide_eq_false n1
 have hr0 := hr
 unfold rightA at hr
 have hr' := of_decide_eq_true hr
 obtain ⟨_, hk40, hlr, heps, ⟨hb10, hb11⟩, ⟨hb20, hb21⟩, _⟩ := hr'
 rw [Int.toNat_natCast] at hb11 hb21
 have hk : k ≤ 40 := by omega
 have hRi := fun w => aright_any lr b1 b2 eps wd (k : Int) apart w
 rw [hr0] at hRi
 have t1 : decide ((t : Int) < 1) = false := decide_eq_false (by omega)
 have t2 : decide (30 < (t : Int)) = false := decide_eq_false (by omega)
 have hE := fun w => pnum_any eps k w hk i4
 have hL := fun w => pnum_any lr k w hk i1
 have hK1 := fun w => plack_any b1 k t w hk i2 (by omega)
 have hK2 := fun w => plack_any b2 k t w hk i3 (by omega)
 have lp1 := lack_pos hb10 hb11 ht1
 have lp2 := lack_pos hb20 hb21 ht1
 have sone : BQ (1 : Rat) 1 := BQ.int (n := 1) (by unfold W64; omega)
 have sm := fun (b : Int) (hb : In64 b) => (BQ.mk (Sz.u64 (by have := hb.1; have := hb.2; unfold W64; omega)) ((Sz.two_pow k).more (by omega)) (by omega) : BQ (mkRat b (2 ^ k)) 1)
 have sl := fun (b : Int) (hb : In64 b) => (show BQ (1 - powQ (mkRat b (2 ^ k)) t) 130 by rw [Rat.sub_eq_add_neg]; exact (sone.add (sz_powQ (sm b hb) t).neg).more (by omega))
 have sl1 := sl b1 i2
 have sl2 := sl b2 i3
 have se := sm eps i4
 have sr := sm lr i1
 have pe : 0 < mkRat eps (2 ^ k) := by
   rw [Rat.mkRat_eq_div, Rat.div_def]
   exact Rat.mul_pos (by have : ((0 : Int) : Rat) < (eps : Rat) := by rw [Rat.intCast_lt_intCast]; exact heps
                         exact this) (Rat.inv_pos.2 (by have := powQ_pos k; simpa using this))
 have hO := fun w => pof_any 0 (by omega) (by omega) w
 rw [show ((0 : Int) : Rat) = 0 from rfl] at hO
 have bz0 : BQ (0 : Rat) 10 := (BQ.int (n := 0) (by unfold W64; omega)).more (by omega)
 have bz : BQ z 10 := by rw [ez]; split <;> assumption
 have z0n : 0 ≤ z := by
   rw [ez]; split
   · exact Rat.le_refl
   · rw [← Rat.num_nonneg]; omega
 rw [← ez]
 clear bz0 ez e3
 obtain ⟨l1, el1⟩ : ∃ l, l = (1 - powQ (mkRat b1 (2 ^ k)) t) := ⟨_, rfl⟩
 obtain ⟨l2, el2⟩ : ∃ l, l = (1 - powQ (mkRat b2 (2 ^ k)) t) := ⟨_, rfl⟩
 rw [← el1] at hK1 lp1 sl1 ⊢
 rw [← el2] at hK2 lp2 sl2 ⊢
 obtain ⟨re, ere⟩ : ∃ l, l = mkRat eps (2 ^ k) := ⟨_, rfl⟩
 obtain ⟨rl, erl⟩ : ∃ l, l = mkRat lr (2 ^ k) := ⟨_, rfl⟩
 rw [← ere] at hE se pe ⊢
 rw [← erl] at hL sr ⊢
 have hDv1 := fun u v w h h' => pivdiv_any u v ra rb l1 l1 w h h' (b0.more (by omega)) (b0'.more (by omega)) (sl1.more (by omega)) (sl1.more (by omega)) (pos_has lp1) (pos_num lp1) (pos_num lp1)
 obtain ⟨sx1, sx2⟩ := sz_div b0 b0' sl1 sl1
 have hDv2 := fun u v w h h' => pivdiv_any u v z rd l2 l2 w h h' (bz.more (by omega)) (b3.more (by omega)) (sl2.more (by omega)) (sl2.more (by omega)) (pos_has lp2) (pos_num lp2) (pos_num lp2)
 obtain ⟨sy1, sy2⟩ := sz_div bz b3 sl2 sl2
 have p1' : 0 ≤ rd := by rw [← Rat.num_nonneg]; omega
 have p0' : 0 ≤ z := z0n
 have yn : 0 ≤ divLo z rd l2 l2 := (four_all (P := fun q => 0 ≤ q) (div_nonneg p0' lp2) (div_nonneg p0' lp2) (div_nonneg p1' lp2) (div_nonneg p1' lp2)).1
 have yn' : ¬ (divLo z rd l2 l2).num < 0 := by rw [num_neg_iff, Rat.not_lt]; exact yn
 have hSq := fun v w h => psqrt_fn v (divLo z rd l2 l2) (divHi z rd l2 l2) w h (sy1.more (by omega)) (sy2.more (by omega)) yn'
 have sg1 := sz_sqLo sy1
 have sg2 := sz_sqHi sy2
 have dp1 : 0 < sqLo (divLo z rd l2 l2) + re := add_posQ (sqLo_nonneg _) pe
 have dp2 : 0 < sqHi (divHi z rd l2 l2) + re := add_posQ (sqHi_nonneg _) pe
 have hIv := fun v r w h => pivof_any v r w h
 have hAd := fun u v w h h' => pivadd_any u v (sqLo (divLo z rd l2 l2)) (sqHi (divHi z rd l2 l2)) re re w h h' (sg1.more (by omega)) (sg2.more (by omega)) (se.more (by omega)) (se.more (by omega))
 have sd1 := (sg1.add se).more (m := 400) (by omega)
 have sd2 := (sg2.add se).more (m := 400) (by omega)
 have hDv3 := fun u v w h h' => pivdiv_any u v (divLo ra rb l1 l1) (divHi ra rb l1 l1) (sqLo (divLo z rd l2 l2) + re) (sqHi (divHi z rd l2 l2) + re) w h h' (sx1.more (by omega)) (sx2.more (by omega)) (sd1.more (by omega)) (sd2.more (by omega)) (pos_has dp1) (pos_num dp1) (pos_num dp2)
 obtain ⟨su1, su2⟩ := sz_div sx1 sx2 sd1 sd2
 have hMu := fun u v w h h' => pivmul_any u v rl rl (divLo (divLo ra rb l1 l1) (divHi ra rb l1 l1) (sqLo (divLo z rd l2 l2) + re) (sqHi (divHi z rd l2 l2) + re)) (divHi (divLo ra rb l1 l1) (divHi ra rb l1 l1) (sqLo (divLo z rd l2 l2) + re) (sqHi (divHi z rd l2 l2) + re)) w h h' (sr.more (by omega)) (sr.more (by omega)) (su1.more (by omega)) (su2.more (by omega))
 obtain ⟨sp1, sp2⟩ := sz_mul sr sr su1 su2
 have hOu := fun v w h => pout_any v _ _ w h (sp1.more (by omega)) (sp2.more (by omega))
 unfold updLo updHi
 rw [show mnTo (quo4 ra rb l1 l1) 3 = divLo ra rb l1 l1 from rfl, show mxTo (quo4 ra rb l1 l1) 3 = divHi ra rb l1 l1 from rfl] at hDv1
 rw [show mnTo (quo4 z rd l2 l2) 3 = divLo z rd l2 l2 from rfl, show mxTo (quo4 z rd l2 l2) 3 = divHi z rd l2 l2 from rfl] at hDv2
 generalize divLo ra rb l1 l1 = xl at *
 generalize divHi ra rb l1 l1 = xh at *
 generalize divLo z rd l2 l2 = yl at *
 generalize divHi z rd l2 l2 = yh at *
 generalize sqLo yl = gl at *
 generalize sqHi yh = gh at *
 generalize gl + re = dl at *
 generalize gh + re = dh at *
 rw [show mnTo (quo4 xl xh dl dh) 3 = divLo xl xh dl dh from rfl, show mxTo (quo4 xl xh dl dh) 3 = divHi xl xh dl dh from rfl] at hDv3
 generalize divLo xl xh dl dh = ul at *
 generalize divHi xl xh dl dh = uh at *
 rw [show mnTo [rl * ul, rl * uh, rl * ul, rl * uh] 3 = mulLo rl rl ul uh from rfl, show mxTo [rl * ul, rl * uh, rl * ul, rl * uh] 3 = mulHi rl rl ul uh from rfl] at hMu
 generalize mulLo rl rl ul uh = pl at *
 generalize mulHi rl rl ul uh = ph at *
 generalize mkRat (flr pl 60) (2 ^ 60) = ol at *
 generalize mkRat (cel ph 60) (2 ^ 60) = oh at *
 clear hr hr0 el1 el2 ere erl lp1 lp2 sone sm sl sl1 sl2 se sr pe sx1 sx2 sy1 sy2 p1' p0' yn yn' sg1 sg2 dp1 dp2 sd1 sd2 su1 su2 sp1 sp2 i1 i2 i3 i4 b0 b0' b2' b3 bz z0n n1 hb10 hb11 hb20 hb21 hlr heps
 obtain ⟨g, hg⟩ : ∃ g, g = w.heap.size := ⟨_, rfl⟩
 obtain ⟨Y0, eY0, hA, bY0⟩ := box1 w 61 #[.int .i64 lr, .int .i64 b1, .int .i64 b2, .int .i64 eps, .int .i64 wd, .bool apart]
 have zY0 : Y0.heap.size = g + 1 := by rw [eY0, World.size_alloc, ← hg]
 rw [← hg] at hA
 replace q1 := q1.below bY0
 replace q2 := q2.below bY0
 replace q3 := q3.below bY0
 replace q4 := q4.below bY0
 have hB := bY0
 obtain ⟨Y1, eY1, h7, bY1⟩ := box1 Y0 67 #[.bool s1, .slice A1 L1 C1, .slice D1 M1 E1, .bool s2, .slice A2 L2 C2, .slice D2 M2 E2, .bool s3, .slice A3 L3 C3, .slice D3 M3 E3, .bool false, .slice A4 L4 C4, .slice D4 M4 E4]
 have zY1 : Y1.heap.size = g + 1 + 1 := by rw [eY1, World.size_alloc, zY0]
 rw [zY0] at h7
 replace hA := hA.below bY1 hA.lt
 replace q1 := q1.below bY1
 replace q2 := q2.below bY1
 replace q3 := q3.below bY1
 replace q4 := q4.below bY1
 replace hB := hB.trans (bY1.mono hB.size)
 obtain ⟨Y2, eY2, hR, bY2⟩ := box1 Y1 46 #[.bool false, .slice none 0 0, .slice none 0 0, .bool false, .slice none 0 0, .slice none 0 0]
 have zY2 : Y2.heap.size = g + 1 + 1 + 1 := by rw [eY2, World.size_alloc, zY1]
 rw [zY1] at hR
 replace hA := hA.below bY2 hA.lt
 replace h7 := h7.below bY2 h7.lt
 replace q1 := q1.below bY2
 replace q2 := q2.below bY2
 replace q3 := q3.below bY2
 replace q4 := q4.below bY2
 replace hB := hB.trans (bY2.mono hB.size)
 have hgw : w.heap.size ≤ g := by omega
 have EY := Lib.hid (And.intro hg (And.intro eY0 (And.intro eY1 eY2)))
 clear hg eY0 zY0 eY1 zY1 eY2 zY2
 obtain ⟨c0, c1, c2, c3, c4, c5⟩ := hA.q6
 obtain ⟨c6, c7, c8, c9, c10, c11, c12, c13, c14, c15, c16, c17⟩ := h7.q12
 obtain ⟨c18, c19, c20, c21, c22, c23⟩ := hR.q6
 go_enter Tryz.func32, Tryz.ntmps32
 go_upto_region 1 with fail
 rw [← EY.out.2.1, ← EY.out.2.2.1, ← EY.out.2.2.2, ← EY.out.1]
 replace hB := hB.drew
 replace q1 := q1.below (bdrew _)
 replace q2 := q2.below (bdrew _)
 replace q3 := q3.below (bdrew _)
 replace q4 := q4.below (bdrew _)
 replace hA := hA.drew
 replace h7 := h7.drew
 replace hR := hR.drew
 clear c0 c1 c2 c3 c4 c5 c6 c7 c8 c9 c10 c11 c12 c13 c14 c15 c16 c17 c18 c19 c20 c21 c22 c23
 go_cut [10, 11] (fun s10 s11 wx => ∃ XPA XPB, s10 = .pointer (some ⟨XPA, 0, none⟩) ∧ s11 = .pointer (some ⟨XPB, 0, none⟩) ∧ IsQ wx (.agg #[.bool s1, .slice A1 L1 C1, .slice D1 M1 E1]) ra ∧ IsQ wx (.agg #[.bool s2, .slice A2 L2 C2, .slice D2 M2 E2]) rb ∧ IsQ wx (.agg #[.bool s3, .slice A3 L3 C3, .slice D3 M3 E3]) rc ∧ IsQ wx (.agg #[.bool false, .slice A4 L4 C4, .slice D4 M4 E4]) rd ∧ Blk wx g 61 #[.int .i64 lr, .int .i64 b1, .int .i64 b2, .int .i64 eps, .int .i64 wd, .bool apart] ∧ Blk wx (g + 1 + 1) 46 #[.bool false, .slice none 0 0, .slice none 0 0, .bool false, .slice none 0 0, .slice none 0 0] ∧ Blk wx XPA 46 #[.bool s1, .slice A1 L1 C1, .slice D1 M1 E1, .bool s2, .slice A2 L2 C2, .slice D2 M2 E2] ∧ Blk wx XPB 46 #[.bool s3, .slice A3 L3 C3, .slice D3 M3 E3, .bool false, .slice A4 L4 C4, .slice D4 M4 E4] ∧ Below w.heap.size w wx ∧ w.heap.size ≤ XPA ∧ w.heap.size ≤ XPB ∧ g ≠ XPA ∧ g + 1 + 1 ≠ XPA ∧ g ≠ XPB ∧ g + 1 + 1 ≠ XPB ∧ XPA ≠ XPB)
 case first =>
   refine wp_region_noPanic ?_
   refine wp_region_held_drew (S := fun w' => w'.cell? ⟨g + 1, 0, none⟩ = some (.bool s1) ∧ w'.cell? ⟨g + 1, 1, none⟩ = some (.slice A1 L1 C1) ∧ w'.cell? ⟨g + 1, 2, none⟩ = some (.slice D1 M1 E1) ∧ w'.cell? ⟨g + 1, 3, none⟩ = some (.bool s2) ∧ w'.cell? ⟨g + 1, 4, none⟩ = some (.slice A2 L2 C2) ∧ w'.cell? ⟨g + 1, 5, none⟩ = some (.slice D2 M2 E2) ∧ w'.cell? ⟨g + 1, 6, none⟩ = some (.bool s3) ∧ w'.cell? ⟨g + 1, 7, none⟩ = some (.slice A3 L3 C3) ∧ w'.cell? ⟨g + 1, 8, none⟩ = some (.slice D3 M3 E3) ∧ w'.cell? ⟨g + 1, 9, none⟩ = some (.bool false) ∧ w'.cell? ⟨g + 1, 10, none⟩ = some (.slice A4 L4 C4) ∧ w'.cell? ⟨g + 1, 11, none⟩ = some (.slice D4 M4 E4)) (by kernel_rfl) ?_ (fun hHeld => ?_)
   · exact ⟨h7.cell 0, h7.cell 1, h7.cell 2, h7.cell 3, h7.cell 4, h7.cell 5, h7.cell 6, h7.cell 7, h7.cell 8, h7.cell 9, h7.cell 10, h7.cell 11⟩
   obtain ⟨wd1_1, hwd⟩ : ∃ q, q = Y2.drew := ⟨_, rfl⟩
   rw [← hwd] at hB q1 q2 q3 q4 hA h7 hR hHeld ⊢
   clear hwd
   refine tkH 0 rfl (v := ?v1) ?h1 ?r1
   case h1 => intro w hSw; (try dsimp only at hSw); go_simp; try (with_reducible rfl)
   refine tkH 1 rfl (v := ?v2) ?h2 ?r2
   case h2 => intro w hSw; (try dsimp only at hSw); go_simp; try (with_reducible rfl)
   refine tkH 2 rfl (v := ?v3) ?h3 ?r3
   case h3 => intro w hSw; (try dsimp only at hSw); go_simp; try (with_reducible rfl)
   refine tkH 3 rfl (v := ?v4) ?h4 ?r4
   case h4 => intro w hSw; (try dsimp only at hSw); go_simp; try (with_reducible rfl)
   try simp only [Act.put, lay1, lay2, lay3, lay4, lay5, lay6]
   refine rd2 4 5 rfl rfl (fun K hK => ?_) fun K hK => ?_
   · obtain ⟨u1_1, eu, h10, b1_1⟩ := box1 wd1_1 46 #[.bool false, .slice none 0 0, .slice none 0 0, .bool false, .slice none 0 0, .slice none 0 0]
     obtain ⟨XPA, en⟩ : ∃ X, X = wd1_1.heap.size := ⟨_, rfl⟩
     rw [← en] at h10
     have lXPA : w.heap.size ≤ XPA := by rw [en]; exact hB.size
     have dXPA_hA : g ≠ XPA := by have := hA.lt; omega
     have dXPA_h7 : g + 1 ≠ XPA := by have := h7.lt; omega
     have dXPA_hR : g + 1 + 1 ≠ XPA := by have := hR.lt; omega
     have EUXPA := Lib.hid (And.intro eu en)
     clear eu en
     go_simp
     rw [← EUXPA.out.1, ← EUXPA.out.2]
     replace q1 := q1.below b1_1
     replace q2 := q2.below b1_1
     replace q3 := q3.below b1_1
     replace q4 := q4.below b1_1
     replace hA := hA.below b1_1 hA.lt
     replace h7 := h7.below b1_1 h7.lt
     replace hR := hR.below b1_1 hR.lt
     replace hB := hB.trans (b1_1.mono hB.size)
     refine hK.out _ _ ?_ (fun hHeld => ?_)
     · exact ⟨h7.cell 0, h7.cell 1, h7.cell 2, h7.cell 3, h7.cell 4, h7.cell 5, h7.cell 6, h7.cell 7, h7.cell 8, h7.cell 9, h7.cell 10, h7.cell 11⟩
     clear hK K
     try simp only [Act.put, lay1, lay2, lay3, lay4, lay5, lay6]
     refine rd1 5 rfl fun K hK => ?_
     obtain ⟨u1_2, eu, h11, b1_2⟩ := box1 u1_1 46 #[.bool false, .slice none 0 0, .slice none 0 0, .bool false, .slice none 0 0, .slice none 0 0]
     obtain ⟨XPB, en⟩ : ∃ X, X = u1_1.heap.size := ⟨_, rfl⟩
     rw [← en] at h11
     have lXPB : w.heap.size ≤ XPB := by rw [en]; exact hB.size
     have dXPB_hA : g ≠ XPB := by have := hA.lt; omega
     have dXPB_h7 : g + 1 ≠ XPB := by have := h7.lt; omega
     have dXPB_hR : g + 1 + 1 ≠ XPB := by have := hR.lt; omega
     have dXPB_h10 : XPA ≠ XPB := by have := h10.lt; omega
     have EUXPB := Lib.hid (And.intro eu en)
     clear eu en
     go_simp
     rw [← EUXPB.out.1, ← EUXPB.out.2]
     replace q1 := q1.below b1_2
     replace q2 := q2.below b1_2
     replace q3 := q3.below b1_2
     replace q4 := q4.below b1_2
     replace hA := hA.below b1_2 hA.lt
     replace h7 := h7.below b1_2 h7.lt
     replace hR := hR.below b1_2 hR.lt
     replace h10 := h10.below b1_2 h10.lt
     replace hB := hB.trans (b1_2.mono hB.size)
     refine hK.out _ _ ?_ (fun hHeld => ?_)
     · exact ⟨h7.cell 0, h7.cell 1, h7.cell 2, h7.cell 3, h7.cell 4, h7.cell 5, h7.cell 6, h7.cell 7, h7.cell 8, h7.cell 9, h7.cell 10, h7.cell 11⟩
     clear hK K
     try simp only [Act.put, lay1, lay2, lay3, lay4, lay5, lay6]
     refine rd1 6 rfl fun K hK => ?_
     obtain ⟨u1_3, eu, h10', kz, kb, kB⟩ := fill6 h10 (.bool s1) (.slice A1 L1 C1) (.slice D1 M1 E1) (.bool s2) (.slice A2 L2 C2) (.slice D2 M2 E2) (by simp [noU])
     have x0 : World.cell? _ ⟨XPA, 0, none⟩ = some (.bool false) := h10.cell 0
     have x1 : World.cell? _ ⟨XPA, 1, none⟩ = some (.slice none 0 0) := h10.cell 1
     have x2 : World.cell? _ ⟨XPA, 2, none⟩ = some (.slice none 0 0) := h10.cell 2
     have x3 : World.cell? _ ⟨XPA, 3, none⟩ = some (.bool false) := h10.cell 3
     have x4 : World.cell? _ ⟨XPA, 4, none⟩ = some (.slice none 0 0) := h10.cell 4
     have x5 : World.cell? _ ⟨XPA, 5, none⟩ = some (.slice none 0 0) := h10.cell 5
     have xf := h10.frozen
     go_simp
     rw [← eu]
     replace q1 := q1.filled kz
     replace q2 := q2.filled kz
     replace q3 := q3.filled kz
     replace q4 := q4.filled kz
     replace hA := kb _ _ _ hA (by omega)
     replace h7 := kb _ _ _ h7 (by omega)
     replace hR := kb _ _ _ hR (by omega)
     replace h11 := kb _ _ _ h11 (by omega)
     replace hB := kB _ _ (by omega) hB
     replace h10 := h10'
     clear h10' kz kb kB eu xf x0 x1 x2 x3 x4 x5
     refine hK.out _ _ ?_ (fun hHeld => ?_)
     · exact ⟨h7.cell 0, h7.cell 1, h7.cell 2, h7.cell 3, h7.cell 4, h7.cell 5, h7.cell 6, h7.cell 7, h7.cell 8, h7.cell 9, h7.cell 10, h7.cell 11⟩
     clear hK K
     try simp only [Act.put, lay1, lay2, lay3, lay4, lay5, lay6]
     refine rd1 7 rfl fun K hK => ?_
     obtain ⟨u1_4, eu, h11', kz, kb, kB⟩ := fill6 h11 (.bool s3) (.slice A3 L3 C3) (.slice D3 M3 E3) (.bool false) (.slice A4 L4 C4) (.slice D4 M4 E4) (by simp [noU])
     have x0 : World.cell? _ ⟨XPB, 0, none⟩ = some (.bool false) := h11.cell 0
     have x1 : World.cell? _ ⟨XPB, 1, none⟩ = some (.slice none 0 0) := h11.cell 1
     have x2 : World.cell? _ ⟨XPB, 2, none⟩ = some (.slice none 0 0) := h11.cell 2
     have x3 : World.cell? _ ⟨XPB, 3, none⟩ = some (.bool false) := h11.cell 3
     have x4 : World.cell? _ ⟨XPB, 4, none⟩ = some (.slice none 0 0) := h11.cell 4
     have x5 : World.cell? _ ⟨XPB, 5, none⟩ = some (.slice none 0 0) := h11.cell 5
     have xf := h11.frozen
     go_simp
     rw [← eu]
     replace q1 := q1.filled kz
     replace q2 := q2.filled kz
     replace q3 := q3.filled kz
     replace q4 := q4.filled kz
     replace hA := kb _ _ _ hA (by omega)
     replace h7 := kb _ _ _ h7 (by omega)
     replace hR := kb _ _ _ hR (by omega)
     replace h10 := kb _ _ _ h10 (by omega)
     replace hB := kB _ _ (by omega) hB
     replace h11 := h11'
     clear h11' kz kb kB eu xf x0 x1 x2 x3 x4 x5
     refine hK.out _ _ ?_ (fun hHeld => ?_)
     · exact ⟨h7.cell 0, h7.cell 1, h7.cell 2, h7.cell 3, h7.cell 4, h7.cell 5, h7.cell 6, h7.cell 7, h7.cell 8, h7.cell 9, h7.cell 10, h7.cell 11⟩
     clear hK K
     try simp only [Act.put, lay1, lay2, lay3, lay4, lay5, lay6]
     try dsimp only
     try simp only [Act.put, lay1, lay2, lay3, lay4, lay5, lay6]
     refine wpAnyH_done (by kernel_rfl) ?_ _
     refine NoPanic.normal ?_
     go_wp2_with fail
     go_meet
     exact ⟨XPA, XPB, rfl, rfl, q1, q2, q3, q4, hA, hR, h10, h11, hB, lXPA, lXPB, (by assumption), (by assumption), (by assumption), (by assumption), (by first | assumption | exact Ne.symm (by assumption))⟩
   · obtain ⟨u1_5, eu, h11, b1_5⟩ := box1 wd1_1 46 #[.bool false, .slice none 0 0, .slice none 0 0, .bool false, .slice none 0 0, .slice none 0 0]
     obtain ⟨XPB, en⟩ : ∃ X, X = wd1_1.heap.size := ⟨_, rfl⟩
     rw [← en] at h11
     have lXPB : w.heap.size ≤ XPB := by rw [en]; exact hB.size
     have dXPB_hA : g ≠ XPB := by have := hA.lt; omega
     have dXPB_h7 : g + 1 ≠ XPB := by have := h7.lt; omega
     have dXPB_hR : g + 1 + 1 ≠ XPB := by have := hR.lt; omega
     have EUXPB := Lib.hid (And.intro eu en)
     clear eu en
     go_simp
     rw [← EUXPB.out.1, ← EUXPB.out.2]
     replace q1 := q1.below b1_5
     replace q2 := q2.below b1_5
     replace q3 := q3.below b1_5
     replace q4 := q4.below b1_5
     replace hA := hA.below b1_5 hA.lt
     replace h7 := h7.below b1_5 h7.lt
     replace hR := hR.below b1_5 hR.lt
     replace hB := hB.trans (b1_5.mono hB.size)
     refine hK.out _ _ ?_ (fun hHeld => ?_)
     · exact ⟨h7.cell 0, h7.cell 1, h7.cell 2, h7.cell 3, h7.cell 4, h7.cell 5, h7.cell 6, h7.cell 7, h7.cell 8, h7.cell 9, h7.cell 10, h7.cell 11⟩
     clear hK K
     try simp only [Act.put, lay1, lay2, lay3, lay4, lay5, lay6]
     refine rd1 4 rfl fun K hK => ?_
     obtain ⟨u1_6, eu, h10, b1_6⟩ := box1 u1_5 46 #[.bool false, .slice none 0 0, .slice none 0 0, .bool false, .slice none 0 0, .slice none 0 0]
     obtain ⟨XPA, en⟩ : ∃ X, X = u1_5.heap.size := ⟨_, rfl⟩
     rw [← en] at h10
     have lXPA : w.heap.size ≤ XPA := by rw [en]; exact hB.size
     have dXPA_hA : g ≠ XPA := by have := hA.lt; omega
     have dXPA_h7 : g + 1 ≠ XPA := by have := h7.lt; omega
     have dXPA_hR : g + 1 + 1 ≠ XPA := by have := hR.lt; omega
     have dXPA_h11 : XPB ≠ XPA := by have := h11.lt; omega
     have EUXPA := Lib.hid (And.intro eu en)
     clear eu en
     go_simp
     rw [← EUXPA.out.1, ← EUXPA.out.2]
     replace q1 := q1.below b1_6
     replace q2 := q2.below b1_6
     replace q3 := q3.below b1_6
     replace q4 := q4.below b1_6
     replace hA := hA.below b1_6 hA.lt
     replace h7 := h7.below b1_6 h7.lt
     replace hR := hR.below b1_6 hR.lt
     replace h11 := h11.below b1_6 h11.lt
     replace hB := hB.trans (b1_6.mono hB.size)
     refine hK.out _ _ ?_ (fun hHeld => ?_)
     · exact ⟨h7.cell 0, h7.cell 1, h7.cell 2, h7.cell 3, h7.cell 4, h7.cell 5, h7.cell 6, h7.cell 7, h7.cell 8, h7.cell 9, h7.cell 10, h7.cell 11⟩
     clear hK K
     try simp only [Act.put, lay1, lay2, lay3, lay4, lay5, lay6]
     refine rd1 6 rfl fun K hK => ?_
     obtain ⟨u1_7, eu, h10', kz, kb, kB⟩ := fill6 h10 (.bool s1) (.slice A1 L1 C1) (.slice D1 M1 E1) (.bool s2) (.slice A2 L2 C2) (.slice D2 M2 E2) (by simp [noU])
     have x0 : World.cell? _ ⟨XPA, 0, none⟩ = some (.bool false) := h10.cell 0
     have x1 : World.cell? _ ⟨XPA, 1, none⟩ = some (.slice none 0 0) := h10.cell 1
     have x2 : World.cell? _ ⟨XPA, 2, none⟩ = some (.slice none 0 0) := h10.cell 2
     have x3 : World.cell? _ ⟨XPA, 3, none⟩ = some (.bool false) := h10.cell 3
     have x4 : World.cell? _ ⟨XPA, 4, none⟩ = some (.slice none 0 0) := h10.cell 4
     have x5 : World.cell? _ ⟨XPA, 5, none⟩ = some (.slice none 0 0) := h10.cell 5
     have xf := h10.frozen
     go_simp
     rw [← eu]
     replace q1 := q1.filled kz
     replace q2 := q2.filled kz
     replace q3 := q3.filled kz
     replace q4 := q4.filled kz
     replace hA := kb _ _ _ hA (by omega)
     replace h7 := kb _ _ _ h7 (by omega)
     replace hR := kb _ _ _ hR (by omega)
     replace h11 := kb _ _ _ h11 (by omega)
     replace hB := kB _ _ (by omega) hB
     replace h10 := h10'
     clear h10' kz kb kB eu xf x0 x1 x2 x3 x4 x5
     refine hK.out _ _ ?_ (fun hHeld => ?_)
     · exact ⟨h7.cell 0, h7.cell 1, h7.cell 2, h7.cell 3, h7.cell 4, h7.cell 5, h7.cell 6, h7.cell 7, h7.cell 8, h7.cell 9, h7.cell 10, h7.cell 11⟩
     clear hK K
     try simp only [Act.put, lay1, lay2, lay3, lay4, lay5, lay6]
     refine rd1 7 rfl fun K hK => ?_
     obtain ⟨u1_8, eu, h11', kz, kb, kB⟩ := fill6 h11 (.bool s3) (.slice A3 L3 C3) (.slice D3 M3 E3) (.bool false) (.slice A4 L4 C4) (.slice D4 M4 E4) (by simp [noU])
     have x0 : World.cell? _ ⟨XPB, 0, none⟩ = some (.bool false) := h11.cell 0
     have x1 : World.cell? _ ⟨XPB, 1, none⟩ = some (.slice none 0 0) := h11.cell 1
     have x2 : World.cell? _ ⟨XPB, 2, none⟩ = some (.slice none 0 0) := h11.cell 2
     have x3 : World.cell? _ ⟨XPB, 3, none⟩ = some (.bool false) := h11.cell 3
     have x4 : World.cell? _ ⟨XPB, 4, none⟩ = some (.slice none 0 0) := h11.cell 4
     have x5 : World.cell? _ ⟨XPB, 5, none⟩ = some (.slice none 0 0) := h11.cell 5
     have xf := h11.frozen
     go_simp
     rw [← eu]
     replace q1 := q1.filled kz
     replace q2 := q2.filled kz
     replace q3 := q3.filled kz
     replace q4 := q4.filled kz
     replace hA := kb _ _ _ hA (by omega)
     replace h7 := kb _ _ _ h7 (by omega)
     replace hR := kb _ _ _ hR (by omega)
     replace h10 := kb _ _ _ h10 (by omega)
     replace hB := kB _ _ (by omega) hB
     replace h11 := h11'
     clear h11' kz kb kB eu xf x0 x1 x2 x3 x4 x5
     refine hK.out _ _ ?_ (fun hHeld => ?_)
     · exact ⟨h7.cell 0, h7.cell 1, h7.cell 2, h7.cell 3, h7.cell 4, h7.cell 5, h7.cell 6, h7.cell 7, h7.cell 8, h7.cell 9, h7.cell 10, h7.cell 11⟩
     clear hK K
     try simp only [Act.put, lay1, lay2, lay3, lay4, lay5, lay6]
     try dsimp only
     try simp only [Act.put, lay1, lay2, lay3, lay4, lay5, lay6]
     refine wpAnyH_done (by kernel_rfl) ?_ _
     refine NoPanic.normal ?_
     go_wp2_with fail
     go_meet
     exact ⟨XPA, XPB, rfl, rfl, q1, q2, q3, q4, hA, hR, h10, h11, hB, lXPA, lXPB, (by assumption), (by assumption), (by assumption), (by assumption), (by first | assumption | exact Ne.symm (by assumption))⟩
 obtain ⟨XPA, XPB, rfl, rfl, q1, q2, q3, q4, hA, hR, h10, h11, hB, lXPA, lXPB, dXPA_hA, dXPA_hR, dXPB_hA, dXPB_hR, nXPA_XPB⟩ := hcut
 obtain ⟨c24, c25, c26, c27, c28, c29⟩ := hA.q6
 obtain ⟨c30, c31, c32, c33, c34, c35⟩ := hR.q6
 obtain ⟨c36, c37, c38, c39, c40, c41⟩ := h10.q6
 obtain ⟨c42, c43, c44, c45, c46, c47⟩ := h11.q6
 go_wp2_with fail
 refine (hRi _).mono ?_
 rintro e w3 ⟨rfl, b3⟩
 replace q1 := q1.below b3
 replace q2 := q2.below b3
 replace q3 := q3.below b3
 replace q4 := q4.below b3
 replace hA := hA.below b3 hA.lt
 replace hR := hR.below b3 hR.lt
 replace h10 := h10.below b3 h10.lt
 replace h11 := h11.below b3 h11.lt
 replace hB := hB.trans (b3.mono hB.size)
 clear c24 c25 c26 c27 c28 c29 c30 c31 c32 c33 c34 c35 c36 c37 c38 c39 c40 c41 c42 c43 c44 c45 c46 c47
 obtain ⟨c48, c49, c50, c51, c52, c53⟩ := hA.q6
 obtain ⟨c54, c55, c56, c57, c58, c59⟩ := hR.q6
 obtain ⟨c60, c61, c62, c63, c64, c65⟩ := h10.q6
 obtain ⟨c66, c67, c68, c69, c70, c71⟩ := h11.q6
 go_upto_if 50 with fail
 go_cut [10] (fun s10 wx => ∃ (s20 : Bool) (A20 : Option Addr) (L20 C20 : Nat) (D20 : Option Addr) (M20 E20 : Nat), s10 = .pointer (some ⟨XPA, 0, none⟩) ∧ Blk wx g 61 #[.int .i64 lr, .int .i64 b1, .int .i64 b2, .int .i64 eps, .int .i64 wd, .bool apart] ∧ Blk wx (g + 1 + 1) 46 #[.bool false, .slice none 0 0, .slice none 0 0, .bool false, .slice none 0 0, .slice none 0 0] ∧ Blk wx XPA 46 #[.bool s1, .slice A1 L1 C1, .slice D1 M1 E1, .bool s2, .slice A2 L2 C2, .slice D2 M2 E2] ∧ IsQ wx (.agg #[.bool s1, .slice A1 L1 C1, .slice D1 M1 E1]) ra ∧ IsQ wx (.agg #[.bool s2, .slice A2 L2 C2, .slice D2 M2 E2]) rb ∧ IsQ wx (.agg #[.bool false, .slice A4 L4 C4, .slice D4 M4 E4]) rd ∧ Blk wx XPB 46 #[.bool s20, .slice A20 L20 C20, .slice D20 M20 E20, .bool false, .slice A4 L4 C4, .slice D4 M4 E4] ∧ IsQ wx (.agg #[.bool s20, .slice A20 L20 C20, .slice D20 M20 E20]) z ∧ Below w.heap.size w wx)
 case first =>
   cases s3
   case false =>
     have q3' : IsQ w3 (.agg #[.bool false, .slice A3 L3 C3, .slice D3 M3 E3]) z := by rw [HZ.out.2 rfl]; exact q3
     go_wp2_with fail
     go_meet
     exact ⟨_, _, _, _, _, _, _, rfl, hA, hR, h10, q1, q2, q4, h11, q3', hB⟩
   case true =>
     have HZ0 := Lib.hid (HZ.out.1 rfl)
     go_wp2_with fail
     refine (hO _).mono ?_
     rintro e w5 ⟨v20, rfl, q20, b5⟩
     replace q1 := q1.below b5
     replace q2 := q2.below b5
     replace q3 := q3.below b5
     replace q4 := q4.below b5
     replace hA := hA.below b5 hA.lt
     replace hR := hR.below b5 hR.lt
     replace h10 := h10.below b5 h10.lt
     replace h11 := h11.below b5 h11.lt
     replace hB := hB.trans (b5.mono hB.size)
     clear c48 c49 c50 c51 c52 c53 c54 c55 c56 c57 c58 c59 c60 c61 c62 c63 c64 c65 c66 c67 c68 c69 c70 c71
     obtain ⟨c72, c73, c74, c75, c76, c77⟩ := hA.q6
     obtain ⟨c78, c79, c80, c81, c82, c83⟩ := hR.q6
     obtain ⟨c84, c85, c86, c87, c88, c89⟩ := h10.q6
     obtain ⟨c90, c91, c92, c93, c94, c95⟩ := h11.q6
     obtain ⟨s20, A20, L20, C20, D20, M20, E20, rfl, q20⟩ := q20.opn
     obtain ⟨W6, eW, f1', f2', f3', f4'⟩ := fillHead h11 (.bool s20) (.slice A20 L20 C20) (.slice D20 M20 E20) (by simp [noU])
     have xf := h11.frozen
     go_wp2_with fail
     rw [← eW]
     replace hA := f3' _ _ _ hA (by omega)
     replace hR := f3' _ _ _ hR (by omega)
     replace h10 := f3' _ _ _ h10 (by omega)
     replace q1 := q1.filled f2'
     replace q2 := q2.filled f2'
     replace q20 := q20.filled f2'
     replace q4 := q4.filled f2'
     replace hB := f4' _ _ (by omega) hB
     go_meet
     exact ⟨_, _, _, _, _, _, _, rfl, hA, hR, h10, q1, q2, q4, f1', by rw [HZ0.out]; exact q20, hB⟩
 obtain ⟨s20, A20, L20, C20, D20, M20, E20, rfl, hA, hR, h10, q1, q2, q4, h11, q20, hB⟩ := hcut
 obtain ⟨c72, c73, c74, c75, c76, c77⟩ := hA.q6
 obtain ⟨c78, c79, c80, c81, c82, c83⟩ := hR.q6
 obtain ⟨c84, c85, c86, c87, c88, c89⟩ := h10.q6
 obtain ⟨c90, c91, c92, c93, c94, c95⟩ := h11.q6
 go_wp2_with fail
 refine (hE _).mono ?_
 rintro e w6 ⟨v5, rfl, q5, b6⟩
 replace q1 := q1.below b6
 replace q2 := q2.below b6
 replace q4 := q4.below b6
 replace hA := hA.below b6 hA.lt
 replace hR := hR.below b6 hR.lt
 replace h10 := h10.below b6 h10.lt
 replace h11 := h11.below b6 h11.lt
 replace q20 := q20.below b6
 replace hB := hB.trans (b6.mono hB.size)
 clear c72 c73 c74 c75 c76 c77 c78 c79 c80 c81 c82 c83 c84 c85 c86 c87 c88 c89 c90 c91 c92 c93 c94 c95
 obtain ⟨c96, c97, c98, c99, c100, c101⟩ := hA.q6
 obtain ⟨c102, c103, c104, c105, c106, c107⟩ := hR.q6
 obtain ⟨c108, c109, c110, c111, c112, c113⟩ := h10.q6
 obtain ⟨c114, c115, c116, c117, c118, c119⟩ := h11.q6
 obtain ⟨s5, A5, L5, C5, D5, M5, E5, rfl, q5⟩ := q5.opn
 obtain ⟨V8, eV, h12, bV8⟩ := box1 w6 32 #[.bool s5, .slice A5 L5 C5, .slice D5 M5 E5]
 obtain ⟨X8, eX⟩ : ∃ X, X = w6.heap.size := ⟨_, rfl⟩
 rw [← eX] at h12
 have lX8 : w.heap.size ≤ X8 := by rw [eX]; exact hB.size
 have dX8_hA : g ≠ X8 := by have := hA.lt; omega
 have dX8_hR : g + 1 + 1 ≠ X8 := by have := hR.lt; omega
 have dX8_h10 : XPA ≠ X8 := by have := h10.lt; omega
 have dX8_h11 : XPB ≠ X8 := by have := h11.lt; omega
 have EV8 := Lib.hid (And.intro eV eX)
 clear eV eX
 go_upto_region 7 with fail
 rw [← EV8.out.1, ← EV8.out.2]
 replace q1 := q1.below bV8
 replace q2 := q2.below bV8
 replace q4 := q4.below bV8
 replace hA := hA.below bV8 hA.lt
 replace hR := hR.below bV8 hR.lt
 replace h10 := h10.below bV8 h10.lt
 replace h11 := h11.below bV8 h11.lt
 replace q20 := q20.below bV8
 replace q5 := q5.below bV8
 replace hB := hB.trans (bV8.mono hB.size)
 clear c96 c97 c98 c99 c100 c101 c102 c103 c104 c105 c106 c107 c108 c109 c110 c111 c112 c113 c114 c115 c116 c117 c118 c119
 obtain ⟨c120, c121, c122, c123, c124, c125⟩ := hA.q6
 obtain ⟨c126, c127, c128, c129, c130, c131⟩ := hR.q6
 obtain ⟨c132, c133, c134, c135, c136, c137⟩ := h10.q6
 obtain ⟨c138, c139, c140, c141, c142, c143⟩ := h11.q6
 obtain ⟨c144, c145, c146⟩ := h12.q3
 go_wp2_with fail
 refine (hL _).mono ?_
 rintro e w10 ⟨v6, rfl, q6, b10⟩
 replace q1 := q1.below b10
 replace q2 := q2.below b10
 replace q4 := q4.below b10
 replace hA := hA.below b10 hA.lt
 replace hR := hR.below b10 hR.lt
 replace h10 := h10.below b10 h10.lt
 replace h11 := h11.below b10 h11.lt
 replace q20 := q20.below b10
 replace q5 := q5.below b10
 replace h12 := h12.below b10 h12.lt
 replace hB := hB.trans (b10.mono hB.size)
 clear c120 c121 c122 c123 c124 c125 c126 c127 c128 c129 c130 c131 c132 c133 c134 c135 c136 c137 c138 c139 c140 c141 c142 c143 c144 c145 c146
 obtain ⟨c147, c148, c149, c150, c151, c152⟩ := hA.q6
 obtain ⟨c153, c154, c155, c156, c157, c158⟩ := hR.q6
 obtain ⟨c159, c160, c161, c162, c163, c164⟩ := h10.q6
 obtain ⟨c165, c166, c167, c168, c169, c170⟩ := h11.q6
 obtain ⟨c171, c172, c173⟩ := h12.q3
 obtain ⟨s6, A6, L6, C6, D6, M6, E6, rfl, q6⟩ := q6.opn
 obtain ⟨V12, eV, h14, bV12⟩ := box1 w10 32 #[.bool s6, .slice A6 L6 C6, .slice D6 M6 E6]
 obtain ⟨X12, eX⟩ : ∃ X, X = w10.heap.size := ⟨_, rfl⟩
 rw [← eX] at h14
 have lX12 : w.heap.size ≤ X12 := by rw [eX]; exact hB.size
 have dX12_hA : g ≠ X12 := by have := hA.lt; omega
 have dX12_hR : g + 1 + 1 ≠ X12 := by have := hR.lt; omega
 have dX12_h10 : XPA ≠ X12 := by have := h10.lt; omega
 have dX12_h11 : XPB ≠ X12 := by have := h11.lt; omega
 have dX12_h12 : X8 ≠ X12 := by have := h12.lt; omega
 have EV12 := Lib.hid (And.intro eV eX)
 clear eV eX
 go_upto_region 8 with fail
 rw [← EV12.out.1, ← EV12.out.2]
 replace q1 := q1.below bV12
 replace q2 := q2.below bV12
 replace q4 := q4.below bV12
 replace hA := hA.below bV12 hA.lt
 replace hR := hR.below bV12 hR.lt
 replace h10 := h10.below bV12 h10.lt
 replace h11 := h11.below bV12 h11.lt
 replace q20 := q20.below bV12
 replace q5 := q5.below bV12
 replace h12 := h12.below bV12 h12.lt
 replace q6 := q6.below bV12
 replace hB := hB.trans (bV12.mono hB.size)
 clear c147 c148 c149 c150 c151 c152 c153 c154 c155 c156 c157 c158 c159 c160 c161 c162 c163 c164 c165 c166 c167 c168 c169 c170 c171 c172 c173
 obtain ⟨c174, c175, c176, c177, c178, c179⟩ := hA.q6
 obtain ⟨c180, c181, c182, c183, c184, c185⟩ := hR.q6
 obtain ⟨c186, c187, c188, c189, c190, c191⟩ := h10.q6
 obtain ⟨c192, c193, c194, c195, c196, c197⟩ := h11.q6
 obtain ⟨c198, c199, c200⟩ := h12.q3
 obtain ⟨c201, c202, c203⟩ := h14.q3
 clear c174 c175 c176 c177 c178 c179 c180 c181 c182 c183 c184 c185 c186 c187 c188 c189 c190 c191 c192 c193 c194 c195 c196 c197 c198 c199 c200 c201 c202 c203
 replace hB := hB.drew
 replace q1 := q1.below (bdrew _)
 replace q2 := q2.below (bdrew _)
 replace q4 := q4.below (bdrew _)
 replace hA := hA.drew
 replace hR := hR.drew
 replace h10 := h10.drew
 replace h11 := h11.drew
 replace q20 := q20.below (bdrew _)
 replace q5 := q5.below (bdrew _)
 replace h12 := h12.drew
 replace q6 := q6.below (bdrew _)
 replace h14 := h14.drew
 refine wp_region_noPanic ?_
 refine wp_region_held_drew (S := fun w' => World.grownBy V12.drew w' (some (V12.drew.heap.size))) (by kernel_rfl) (grown_of (Below.refl _ _) _) (fun hHeld => ?_)
 obtain ⟨wd8_2, hwd⟩ : ∃ q, q = V12.drew := ⟨_, rfl⟩
 rw [← hwd] at hB q1 q2 q4 hA hR h10 h11 q20 q5 h12 q6 h14 hHeld ⊢
 clear hwd
 refine tkH 0 rfl (v := ?v5) ?h5 ?r5
 case h5 =>
   intro w hSw
   (try dsimp only at hSw)
   obtain ⟨yh10_0, yh10_1, yh10_2, yh10_3, yh10_4, yh10_5⟩ := (Blk.grownT h10 hSw (fun e => absurd (Option.some.inj e) (Nat.ne_of_lt h10.lt))).q6
   obtain ⟨yhA_0, yhA_1, yhA_2, yhA_3, yhA_4, yhA_5⟩ := (Blk.grownT hA hSw (fun e => absurd (Option.some.inj e) (Nat.ne_of_lt hA.lt))).q6
   go_simp
   try (with_reducible rfl)
 refine tkH 1 rfl (v := ?v6) ?h6 ?r6
 case h6 =>
   intro w hSw
   (try dsimp only at hSw)
   go_simp
   try (with_reducible rfl)
 refine tkH 2 rfl (v := ?v7) ?h7 ?r7
 case h7 =>
   intro w hSw
   (try dsimp only at hSw)
   obtain ⟨yh10_0, yh10_1, yh10_2, yh10_3, yh10_4, yh10_5⟩ := (Blk.grownT h10 hSw (fun e => absurd (Option.some.inj e) (Nat.ne_of_lt h10.lt))).q6
   obtain ⟨yhA_0, yhA_1, yhA_2, yhA_3, yhA_4, yhA_5⟩ := (Blk.grownT hA hSw (fun e => absurd (Option.some.inj e) (Nat.ne_of_lt hA.lt))).q6
   go_simp
   try (with_reducible rfl)
 refine tkH 3 rfl (v := ?v8) ?h8 ?r8
 case h8 =>
   intro w hSw
   (try dsimp only at hSw)
   go_simp
   try (with_reducible rfl)
 refine tkH 4 rfl (v := ?v9) ?h9 ?r9
 case h9 =>
   intro w hSw
   (try dsimp only at hSw)
   go_simp
   try (with_reducible rfl)
 try simp only [Act.put, lay1, lay2, lay3, lay4, lay5, lay6]
 refine wpAnyH_facts [(5, 73), (6, 74), (10, 16)] [(7, 67), (8, 75), (9, 76)] [9] (pick [(5, fun (v : Value) (w : World) => ∃ u5, u5 = v ∧ IsS w u5 l1 l1), (6, fun (v : Value) (w : World) => ∃ u6, .tuple #[u6, .int .i64 0] = v ∧ IsS w u6 xl xh), (7, fun (v : Value) (w : World) => ∃ u6, .tuple #[u6, .int .i64 0] = v ∧ IsS w u6 xl xh), (8, fun (v : Value) (w : World) => ∃ u6, u6 = v ∧ IsS w u6 xl xh), (9, fun (v : Value) (w : World) => .int .i64 0 = v), (10, fun (v : Value) (w : World) => ∃ XPC, .pointer (some ⟨XPC, 0, none⟩) = v ∧ wd8_2.heap.size ≤ XPC ∧ Blk w XPC 46 #[.bool false, .slice none 0 0, .slice none 0 0, .bool false, .slice none 0 0, .slice none 0 0])]) #[true, true, true, true, true, true, true, true, true, true, true, false, false] (fun _ h => grown_of h _) (pick_pers (show PersAll _ from ⟨fun _ _ _ b ⟨u5, e, g5⟩ => ⟨u5, e, g5.below b⟩, fun _ _ _ b ⟨u6, e, g6⟩ => ⟨u6, e, g6.below b⟩, fun _ _ _ b ⟨u6, e, g6⟩ => ⟨u6, e, g6.below b⟩, fun _ _ _ b ⟨u6, e, g6⟩ => ⟨u6, e, g6.below b⟩, fun _ _ _ _ e => e, fun _ _ _ b ⟨X, e, l, h⟩ => ⟨X, e, l, h.below b h.lt⟩, trivial⟩)) (hord_of (by kernel_rfl)) (by kernel_rfl) (by kernel_rfl) (by kernel_rfl) (by kernel_rfl) (fun _ _ _ _ _ h => h) ?ops2 ?pur2 ?done2 (Below.refl _ _) (Nat.le_of_ble_eq_true (by kernel_rfl))
 case ops2 =>
   refine .cons rfl (fun a w hS K hK => ?_) ?_
   · have e70 := hS.2.1 70 _ (by kernel_rfl) rfl
     have e71 := hS.2.1 71 _ (by kernel_rfl) rfl
     have e72 := hS.2.1 72 _ (by kernel_rfl) rfl
     go_simp
     refine (hK1 _).mono ?_
     rintro e w' ⟨u5, rfl, g5, b⟩
     exact hK _ _ ⟨u5, rfl, g5⟩ b
   refine .cons rfl (fun a w hS K hK => ?_) ?_
   · have q1 := q1.below hS.1
     have q2 := q2.below hS.1
     have e68 := hS.2.1 68 _ (by kernel_rfl) rfl
     obtain ⟨v73, e73, u5, rfl, g5⟩ := hS.2.2 5 73 (by kernel_rfl)
     go_simp
     refine (hDv1 _ _ _ ⟨_, _, _, _, _, _, rfl, q1, q2⟩ g5).mono ?_
     rintro e w' ⟨u6, rfl, g6, b⟩
     exact hK _ _ ⟨u6, rfl, g6⟩ b
   refine .cons rfl (fun a w hS K hK => ?_) ?_
   · go_simp
     exact hK _ _ ⟨_, rfl, hS.1.size, Blk.new w _ _⟩ ((Below.refl _ w).alloc (Nat.le_refl _) _)
   exact .nil
 case pur2 =>
   refine .cons rfl (fun a w hS => ?_) ?_
   · obtain ⟨v74, e74, u6, rfl, g6⟩ := hS.2.2 6 74 (by kernel_rfl)
     exact ⟨_, fun w' => by go_simp <;> rfl, ⟨u6, rfl, g6⟩⟩
   refine .cons rfl (fun a w hS => ?_) ?_
   · obtain ⟨v67, e67, u6, rfl, g6⟩ := hS.2.2 7 67 (by kernel_rfl)
     exact ⟨_, fun w' => by go_simp <;> rfl, ⟨u6, rfl, g6⟩⟩
   refine .cons rfl (fun a w hS => ?_) ?_
   · obtain ⟨v67, e67, u6, rfl, g6⟩ := hS.2.2 7 67 (by kernel_rfl)
     exact ⟨_, fun w' => by go_simp <;> rfl, rfl⟩
   exact .nil
 case done2 =>
   intro fuel a wr8_2 hf hS hdf hsz hs hd
   obtain ⟨fuel, rfl⟩ : ∃ n, fuel = n + 2 := ⟨fuel - 2, by have h : 2 ≤ fuel := Nat.le_trans (Nat.le_of_ble_eq_true (by kernel_rfl)) hf; omega⟩
   clear hf
   replace q1 := q1.below hS
   replace q2 := q2.below hS
   replace q4 := q4.below hS
   have nhA := hA.lt
   replace hA := hA.below hS nhA
   have nhR := hR.lt
   replace hR := hR.below hS nhR
   have nh10 := h10.lt
   replace h10 := h10.below hS nh10
   have nh11 := h11.lt
   replace h11 := h11.below hS nh11
   replace q20 := q20.below hS
   replace q5 := q5.below hS
   have nh12 := h12.lt
   replace h12 := h12.below hS nh12
   replace q6 := q6.below hS
   have nh14 := h14.lt
   replace h14 := h14.below hS nh14
   obtain ⟨v73_, e73_, u5, rfl, g5⟩ := hd 5 73 (by kernel_rfl)
   obtain ⟨v74_, e74_, u6_6, rfl, -⟩ := hd 6 74 (by kernel_rfl)
   obtain ⟨v67_, e67_, u6_7, rfl, -⟩ := hd 7 67 (by kernel_rfl)
   obtain ⟨v75_, e75_, u6, rfl, g6⟩ := hd 8 75 (by kernel_rfl)
   obtain ⟨v76_, e76_, rfl⟩ := hd 9 76 (by kernel_rfl)
   obtain ⟨v16_, e16_, XPC, rfl, lXPC, h16⟩ := hd 10 16 (by kernel_rfl)
   obtain rfl := act_of [(73, u5), (74, .tuple #[u6_6, .int .i64 0]), (16, .pointer (some ⟨XPC, 0, none⟩)), (67, .tuple #[u6_7, .int .i64 0]), (75, u6), (76, .int .i64 0)] ⟨e73_, e74_, e16_, e67_, e75_, e76_, trivial⟩ hdf hsz (fun s h => hs s h)
   simp only [putAll, List.set_cons_zero, List.set_cons_succ]
   clear hdf hsz hs hd e73_ e74_ e16_ e67_ e75_ e76_
   have kXPC : w.heap.size ≤ XPC := Nat.le_trans hB.size lXPC
   have dXPC_hA : g ≠ XPC := Nat.ne_of_lt (Nat.lt_of_lt_of_le nhA lXPC)
   have dXPC_hR : g + 1 + 1 ≠ XPC := Nat.ne_of_lt (Nat.lt_of_lt_of_le nhR lXPC)
   have dXPC_h10 : XPA ≠ XPC := Nat.ne_of_lt (Nat.lt_of_lt_of_le nh10 lXPC)
   have dXPC_h11 : XPB ≠ XPC := Nat.ne_of_lt (Nat.lt_of_lt_of_le nh11 lXPC)
   have dXPC_h12 : X8 ≠ XPC := Nat.ne_of_lt (Nat.lt_of_lt_of_le nh12 lXPC)
   have dXPC_h14 : X12 ≠ XPC := Nat.ne_of_lt (Nat.lt_of_lt_of_le nh14 lXPC)
   replace hB := hB.trans (hS.mono hB.size)
   clear nhA nhR nh10 nh11 nh12 nh14
   obtain ⟨s9, A9, L9, C9, D9, M9, E9, s10, A10, L10, C10, D10, M10, E10, rfl, q9, q10⟩ := g6.opn
   clear g5
   clear q1
   clear q2
   clear h10
   have hG := grown_of hS (some (wd8_2.heap.size))
   refine rd1 11 rfl fun K hK => ?_
   obtain ⟨ws8_11, eu, h16', kz, kb, kB⟩ := fill6 h16 (.bool s9) (.slice A9 L9 C9) (.slice D9 M9 E9) (.bool s10) (.slice A10 L10 C10) (.slice D10 M10 E10) (by simp [noU])
   have x0 : World.cell? _ ⟨XPC, 0, none⟩ = some (.bool false) := h16.cell 0
   have x1 : World.cell? _ ⟨XPC, 1, none⟩ = some (.slice none 0 0) := h16.cell 1
   have x2 : World.cell? _ ⟨XPC, 2, none⟩ = some (.slice none 0 0) := h16.cell 2
   have x3 : World.cell? _ ⟨XPC, 3, none⟩ = some (.bool false) := h16.cell 3
   have x4 : World.cell? _ ⟨XPC, 4, none⟩ = some (.slice none 0 0) := h16.cell 4
   have x5 : World.cell? _ ⟨XPC, 5, none⟩ = some (.slice none 0 0) := h16.cell 5
   have xf := h16.frozen
   replace hG := (grown_set (grown_set (grown_set (grown_set (grown_set (grown_set hG (p := ⟨XPC, 0, none⟩) (.inr (by assumption)) (.bool s9)) (p := ⟨XPC, 1, none⟩) (.inr (by assumption)) (.slice A9 L9 C9)) (p := ⟨XPC, 2, none⟩) (.inr (by assumption)) (.slice D9 M9 E9)) (p := ⟨XPC, 3, none⟩) (.inr (by assumption)) (.bool s10)) (p := ⟨XPC, 4, none⟩) (.inr (by assumption)) (.slice A10 L10 C10)) (p := ⟨XPC, 5, none⟩) (.inr (by assumption)) (.slice D10 M10 E10))
   rw [← eu] at hG
   go_simp
   rw [← eu]
   replace q4 := q4.filled kz
   replace hA := kb _ _ _ hA (by first | assumption | exact Ne.symm (by assumption) | omega)
   replace hR := kb _ _ _ hR (by first | assumption | exact Ne.symm (by assumption) | omega)
   replace h11 := kb _ _ _ h11 (by first | assumption | exact Ne.symm (by assumption) | omega)
   replace q20 := q20.filled kz
   replace q5 := q5.filled kz
   replace h12 := kb _ _ _ h12 (by first | assumption | exact Ne.symm (by assumption) | omega)
   replace q6 := q6.filled kz
   replace h14 := kb _ _ _ h14 (by first | assumption | exact Ne.symm (by assumption) | omega)
   replace q9 := q9.filled kz
   replace q10 := q10.filled kz
   replace hB := kB _ _ (by omega) hB
   replace h16 := h16'
   clear h16' kz kb kB eu xf x0 x1 x2 x3 x4 x5
   refine hK.out _ _ hG (fun hHeld => ?_)
   clear hK K
   try simp only [lay4, lay5, lay6]
   refine tkH 12 rfl (v := ?v10) ?h10 ?r10 (hS := hG)
   case h10 =>
     intro w hSw
     (try dsimp only at hSw)
     go_simp
     try (with_reducible rfl)
   try simp only [Act.put, lay1, lay2, lay3, lay4, lay5, lay6]
   try dsimp only
   try simp only [Act.put, lay1, lay2, lay3, lay4, lay5, lay6]
   refine wpAnyH_done (by kernel_rfl) ?_ _
   refine NoPanic.normal ?_
   clear hG
   obtain ⟨c204, c205, c206, c207, c208, c209⟩ := hA.q6
   obtain ⟨c210, c211, c212, c213, c214, c215⟩ := hR.q6
   obtain ⟨c216, c217, c218, c219, c220, c221⟩ := h11.q6
   obtain ⟨c222, c223, c224⟩ := h12.q3
   obtain ⟨c225, c226, c227⟩ := h14.q3
   obtain ⟨c228, c229, c230, c231, c232, c233⟩ := h16.q6
   go_upto_region 9 with fail
   clear c204 c205 c206 c207 c208 c209 c210 c211 c212 c213 c214 c215 c216 c217 c218 c219 c220 c221 c222 c223 c224 c225 c226 c227 c228 c229 c230 c231 c232 c233
   replace hB := hB.drew
   replace q4 := q4.below (bdrew _)
   replace hA := hA.drew
   replace hR := hR.drew
   replace h11 := h11.drew
   replace q20 := q20.below (bdrew _)
   replace q5 := q5.below (bdrew _)
   replace h12 := h12.drew
   replace q6 := q6.below (bdrew _)
   replace h14 := h14.drew
   replace h16 := h16.drew
   replace q9 := q9.below (bdrew _)
   replace q10 := q10.below (bdrew _)
   refine wp_region_noPanic ?_
   refine wp_region_held_drew (S := fun w' => World.grownBy ws8_11.drew w' (some (ws8_11.drew.heap.size))) (by kernel_rfl) (grown_of (Below.refl _ _) _) (fun hHeld => ?_)
   obtain ⟨wd9_3, hwd⟩ : ∃ q, q = ws8_11.drew := ⟨_, rfl⟩
   rw [← hwd] at hB q4 hA hR h11 q20 q5 h12 q6 h14 h16 q9 q10 hHeld ⊢
   clear hwd
   refine tkH 0 rfl (v := ?v11) ?h11 ?r11
   case h11 =>
     intro w hSw
     (try dsimp only at hSw)
     obtain ⟨yh11_0, yh11_1, yh11_2, yh11_3, yh11_4, yh11_5⟩ := (Blk.grownT h11 hSw (fun e => absurd (Option.some.inj e) (Nat.ne_of_lt h11.lt))).q6
     obtain ⟨yhA_0, yhA_1, yhA_2, yhA_3, yhA_4, yhA_5⟩ := (Blk.grownT hA hSw (fun e => absurd (Option.some.inj e) (Nat.ne_of_lt hA.lt))).q6
     go_simp
     try (with_reducible rfl)
   refine tkH 1 rfl (v := ?v12) ?h12 ?r12
   case h12 =>
     intro w hSw
     (try dsimp only at hSw)
     go_simp
     try (with_reducible rfl)
   refine tkH 2 rfl (v := ?v13) ?h13 ?r13
   case h13 =>
     intro w hSw
     (try dsimp only at hSw)
     obtain ⟨yh11_0, yh11_1, yh11_2, yh11_3, yh11_4, yh11_5⟩ := (Blk.grownT h11 hSw (fun e => absurd (Option.some.inj e) (Nat.ne_of_lt h11.lt))).q6
     obtain ⟨yhA_0, yhA_1, yhA_2, yhA_3, yhA_4, yhA_5⟩ := (Blk.grownT hA hSw (fun e => absurd (Option.some.inj e) (Nat.ne_of_lt hA.lt))).q6
     go_simp
     try (with_reducible rfl)
   refine tkH 3 rfl (v := ?v14) ?h14 ?r14
   case h14 =>
     intro w hSw
     (try dsimp only at hSw)
     go_simp
     try (with_reducible rfl)
   refine tkH 4 rfl (v := ?v15) ?h15 ?r15
   case h15 =>
     intro w hSw
     (try dsimp only at hSw)
     go_simp
     try (with_reducible rfl)
   try simp only [Act.put, lay1, lay2, lay3, lay4, lay5, lay6]
   refine wpAnyH_facts [(5, 83), (6, 84), (10, 18)] [(7, 77), (8, 85), (9, 86)] [9] (pick [(5, fun (v : Value) (w : World) => ∃ u5, u5 = v ∧ IsS w u5 l2 l2), (6, fun (v : Value) (w : World) => ∃ u6, .tuple #[u6, .int .i64 0] = v ∧ IsS w u6 yl yh), (7, fun (v : Value) (w : World) => ∃ u6, .tuple #[u6, .int .i64 0] = v ∧ IsS w u6 yl yh), (8, fun (v : Value) (w : World) => ∃ u6, u6 = v ∧ IsS w u6 yl yh), (9, fun (v : Value) (w : World) => .int .i64 0 = v), (10, fun (v : Value) (w : World) => ∃ XPD, .pointer (some ⟨XPD, 0, none⟩) = v ∧ wd9_3.heap.size ≤ XPD ∧ Blk w XPD 46 #[.bool false, .slice none 0 0, .slice none 0 0, .bool false, .slice none 0 0, .slice none 0 0])]) #[true, true, true, true, true, true, true, true, true, true, true, false, false] (fun _ h => grown_of h _) (pick_pers (show PersAll _ from ⟨fun _ _ _ b ⟨u5, e, g5⟩ => ⟨u5, e, g5.below b⟩, fun _ _ _ b ⟨u6, e, g6⟩ => ⟨u6, e, g6.below b⟩, fun _ _ _ b ⟨u6, e, g6⟩ => ⟨u6, e, g6.below b⟩, fun _ _ _ b ⟨u6, e, g6⟩ => ⟨u6, e, g6.below b⟩, fun _ _ _ _ e => e, fun _ _ _ b ⟨X, e, l, h⟩ => ⟨X, e, l, h.below b h.lt⟩, trivial⟩)) (hord_of (by kernel_rfl)) (by kernel_rfl) (by kernel_rfl) (by kernel_rfl) (by kernel_rfl) (fun _ _ _ _ _ h => h) ?ops3 ?pur3 ?done3 (Below.refl _ _) (Nat.le_of_ble_eq_true (by kernel_rfl))
   case ops3 =>
     refine .cons rfl (fun a w hS K hK => ?_) ?_
     · have e80 := hS.2.1 80 _ (by kernel_rfl) rfl
       have e81 := hS.2.1 81 _ (by kernel_rfl) rfl
       have e82 := hS.2.1 82 _ (by kernel_rfl) rfl
       go_simp
       refine (hK2 _).mono ?_
       rintro e w' ⟨u5, rfl, g5, b⟩
       exact hK _ _ ⟨u5, rfl, g5⟩ b
     refine .cons rfl (fun a w hS K hK => ?_) ?_
     · have q4 := q4.below hS.1
       have q20 := q20.below hS.1
       have e78 := hS.2.1 78 _ (by kernel_rfl) rfl
       obtain ⟨v83, e83, u5, rfl, g5⟩ := hS.2.2 5 83 (by kernel_rfl)
       go_simp
       refine (hDv2 _ _ _ ⟨_, _, _, _, _, _, rfl, q20, q4⟩ g5).mono ?_
       rintro e w' ⟨u6, rfl, g6, b⟩
       exact hK _ _ ⟨u6, rfl, g6⟩ b
     refine .cons rfl (fun a w hS K hK => ?_) ?_
     · go_simp
       exact hK _ _ ⟨_, rfl, hS.1.size, Blk.new w _ _⟩ ((Below.refl _ w).alloc (Nat.le_refl _) _)
     exact .nil
   case pur3 =>
     refine .cons rfl (fun a w hS => ?_) ?_
     · obtain ⟨v84, e84, u6, rfl, g6⟩ := hS.2.2 6 84 (by kernel_rfl)
       exact ⟨_, fun w' => by go_simp <;> rfl, ⟨u6, rfl, g6⟩⟩
     refine .cons rfl (fun a w hS => ?_) ?_
     · obtain ⟨v77, e77, u6, rfl, g6⟩ := hS.2.2 7 77 (by kernel_rfl)
       exact ⟨_, fun w' => by go_simp <;> rfl, ⟨u6, rfl, g6⟩⟩
     refine .cons rfl (fun a w hS => ?_) ?_
     · obtain ⟨v77, e77, u6, rfl, g6⟩ := hS.2.2 7 77 (by kernel_rfl)
       exact ⟨_, fun w' => by go_simp <;> rfl, rfl⟩
     exact .nil
   case done3 =>
     intro fuel a wr9_3 hf hS hdf hsz hs hd
     obtain ⟨fuel, rfl⟩ : ∃ n, fuel = n + 2 := ⟨fuel - 2, by have h : 2 ≤ fuel := Nat.le_trans (Nat.le_of_ble_eq_true (by kernel_rfl)) hf; omega⟩
     clear hf
     replace q4 := q4.below hS
     have nhA := hA.lt
     replace hA := hA.below hS nhA
     have nhR := hR.lt
     replace hR := hR.below hS nhR
     have nh11 := h11.lt
     replace h11 := h11.below hS nh11
     replace q20 := q20.below hS
     replace q5 := q5.below hS
     have nh12 := h12.lt
     replace h12 := h12.below hS nh12
     replace q6 := q6.below hS
     have nh14 := h14.lt
     replace h14 := h14.below hS nh14
     have nh16 := h16.lt
     replace h16 := h16.below hS nh16
     replace q9 := q9.below hS
     replace q10 := q10.below hS
     obtain ⟨v83_, e83_, u5, rfl, g5⟩ := hd 5 83 (by kernel_rfl)
     obtain ⟨v84_, e84_, u6_6, rfl, -⟩ := hd 6 84 (by kernel_rfl)
     obtain ⟨v77_, e77_, u6_7, rfl, -⟩ := hd 7 77 (by kernel_rfl)
     obtain ⟨v85_, e85_, u6, rfl, g6⟩ := hd 8 85 (by kernel_rfl)
     obtain ⟨v86_, e86_, rfl⟩ := hd 9 86 (by kernel_rfl)
     obtain ⟨v18_, e18_, XPD, rfl, lXPD, h18⟩ := hd 10 18 (by kernel_rfl)
     obtain rfl := act_of [(83, u5), (84, .tuple #[u6_6, .int .i64 0]), (18, .pointer (some ⟨XPD, 0, none⟩)), (77, .tuple #[u6_7, .int .i64 0]), (85, u6), (86, .int .i64 0)] ⟨e83_, e84_, e18_, e77_, e85_, e86_, trivial⟩ hdf hsz (fun s h => hs s h)
     simp only [putAll, List.set_cons_zero, List.set_cons_succ]
     clear hdf hsz hs hd e83_ e84_ e18_ e77_ e85_ e86_
     have kXPD : w.heap.size ≤ XPD := Nat.le_trans hB.size lXPD
     have dXPD_hA : g ≠ XPD := Nat.ne_of_lt (Nat.lt_of_lt_of_le nhA lXPD)
     have dXPD_hR : g + 1 + 1 ≠ XPD := Nat.ne_of_lt (Nat.lt_of_lt_of_le nhR lXPD)
     have dXPD_h11 : XPB ≠ XPD := Nat.ne_of_lt (Nat.lt_of_lt_of_le nh11 lXPD)
     have dXPD_h12 : X8 ≠ XPD := Nat.ne_of_lt (Nat.lt_of_lt_of_le nh12 lXPD)
     have dXPD_h14 : X12 ≠ XPD := Nat.ne_of_lt (Nat.lt_of_lt_of_le nh14 lXPD)
     have dXPD_h16 : XPC ≠ XPD := Nat.ne_of_lt (Nat.lt_of_lt_of_le nh16 lXPD)
     replace hB := hB.trans (hS.mono hB.size)
     clear nhA nhR nh11 nh12 nh14 nh16
     obtain ⟨s11, A11, L11, C11, D11, M11, E11, s12, A12, L12, C12, D12, M12, E12, rfl, q11, q12⟩ := g6.opn
     clear g5
     clear q20
     clear q4
     clear h11
     have hG := grown_of hS (some (wd9_3.heap.size))
     refine rd1 11 rfl fun K hK => ?_
     obtain ⟨ws9_11, eu, h18', kz, kb, kB⟩ := fill6 h18 (.bool s11) (.slice A11 L11 C11) (.slice D11 M11 E11) (.bool s12) (.slice A12 L12 C12) (.slice D12 M12 E12) (by simp [noU])
     have x0 : World.cell? _ ⟨XPD, 0, none⟩ = some (.bool false) := h18.cell 0
     have x1 : World.cell? _ ⟨XPD, 1, none⟩ = some (.slice none 0 0) := h18.cell 1
     have x2 : World.cell? _ ⟨XPD, 2, none⟩ = some (.slice none 0 0) := h18.cell 2
     have x3 : World.cell? _ ⟨XPD, 3, none⟩ = some (.bool false) := h18.cell 3
     have x4 : World.cell? _ ⟨XPD, 4, none⟩ = some (.slice none 0 0) := h18.cell 4
     have x5 : World.cell? _ ⟨XPD, 5, none⟩ = some (.slice none 0 0) := h18.cell 5
     have xf := h18.frozen
     replace hG := (grown_set (grown_set (grown_set (grown_set (grown_set (grown_set hG (p := ⟨XPD, 0, none⟩) (.inr (by assumption)) (.bool s11)) (p := ⟨XPD, 1, none⟩) (.inr (by assumption)) (.slice A11 L11 C11)) (p := ⟨XPD, 2, none⟩) (.inr (by assumption)) (.slice D11 M11 E11)) (p := ⟨XPD, 3, none⟩) (.inr (by assumption)) (.bool s12)) (p := ⟨XPD, 4, none⟩) (.inr (by assumption)) (.slice A12 L12 C12)) (p := ⟨XPD, 5, none⟩) (.inr (by assumption)) (.slice D12 M12 E12))
     rw [← eu] at hG
     go_simp
     rw [← eu]
     replace hA := kb _ _ _ hA (by first | assumption | exact Ne.symm (by assumption) | omega)
     replace hR := kb _ _ _ hR (by first | assumption | exact Ne.symm (by assumption) | omega)
     replace q5 := q5.filled kz
     replace h12 := kb _ _ _ h12 (by first | assumption | exact Ne.symm (by assumption) | omega)
     replace q6 := q6.filled kz
     replace h14 := kb _ _ _ h14 (by first | assumption | exact Ne.symm (by assumption) | omega)
     replace h16 := kb _ _ _ h16 (by first | assumption | exact Ne.symm (by assumption) | omega)
     replace q9 := q9.filled kz
     replace q10 := q10.filled kz
     replace q11 := q11.filled kz
     replace q12 := q12.filled kz
     replace hB := kB _ _ (by omega) hB
     replace h18 := h18'
     clear h18' kz kb kB eu xf x0 x1 x2 x3 x4 x5
     refine hK.out _ _ hG (fun hHeld => ?_)
     clear hK K
     try simp only [lay4, lay5, lay6]
     refine tkH 12 rfl (v := ?v16) ?h16 ?r16 (hS := hG)
     case h16 =>
       intro w hSw
       (try dsimp only at hSw)
       go_simp
       try (with_reducible rfl)
     try simp only [Act.put, lay1, lay2, lay3, lay4, lay5, lay6]
     try dsimp only
     try simp only [Act.put, lay1, lay2, lay3, lay4, lay5, lay6]
     refine wpAnyH_done (by kernel_rfl) ?_ _
     refine NoPanic.normal ?_
     clear hG
     obtain ⟨c234, c235, c236, c237, c238, c239⟩ := hA.q6
     obtain ⟨c240, c241, c242, c243, c244, c245⟩ := hR.q6
     obtain ⟨c246, c247, c248⟩ := h12.q3
     obtain ⟨c249, c250, c251⟩ := h14.q3
     obtain ⟨c252, c253, c254, c255, c256, c257⟩ := h16.q6
     obtain ⟨c258, c259, c260, c261, c262, c263⟩ := h18.q6
     go_wp2_with fail
     refine (hSq _ _ ⟨_, _, _, _, _, _, rfl, q11, q12⟩).mono ?_
     rintro e w18 ⟨v13, rfl, h13, b18⟩
     replace hA := hA.below b18 hA.lt
     replace hR := hR.below b18 hR.lt
     replace q5 := q5.below b18
     replace h12 := h12.below b18 h12.lt
     replace q6 := q6.below b18
     replace h14 := h14.below b18 h14.lt
     replace h16 := h16.below b18 h16.lt
     replace q9 := q9.below b18
     replace q10 := q10.below b18
     replace h18 := h18.below b18 h18.lt
     replace q11 := q11.below b18
     replace q12 := q12.below b18
     replace hB := hB.trans (b18.mono hB.size)
     clear c234 c235 c236 c237 c238 c239 c240 c241 c242 c243 c244 c245 c246 c247 c248 c249 c250 c251 c252 c253 c254 c255 c256 c257 c258 c259 c260 c261 c262 c263
     obtain ⟨c264, c265, c266, c267, c268, c269⟩ := hA.q6
     obtain ⟨c270, c271, c272, c273, c274, c275⟩ := hR.q6
     obtain ⟨c276, c277, c278⟩ := h12.q3
     obtain ⟨c279, c280, c281⟩ := h14.q3
     obtain ⟨c282, c283, c284, c285, c286, c287⟩ := h16.q6
     obtain ⟨c288, c289, c290, c291, c292, c293⟩ := h18.q6
     obtain ⟨s13, A13, L13, C13, D13, M13, E13, s14, A14, L14, C14, D14, M14, E14, rfl, q13, q14⟩ := h13.opn
     obtain ⟨V20, eV, h20, bV20⟩ := box1 w18 46 #[.bool s13, .slice A13 L13 C13, .slice D13 M13 E13, .bool s14, .slice A14 L14 C14, .slice D14 M14 E14]
     obtain ⟨X20, eX⟩ : ∃ X, X = w18.heap.size := ⟨_, rfl⟩
     rw [← eX] at h20
     have lX20 : w.heap.size ≤ X20 := by rw [eX]; exact hB.size
     have dX20_hA : g ≠ X20 := by have := hA.lt; omega
     have dX20_hR : g + 1 + 1 ≠ X20 := by have := hR.lt; omega
     have dX20_h12 : X8 ≠ X20 := by have := h12.lt; omega
     have dX20_h14 : X12 ≠ X20 := by have := h14.lt; omega
     have dX20_h16 : XPC ≠ X20 := by have := h16.lt; omega
     have EV20 := Lib.hid (And.intro eV eX)
     clear eV eX
     go_upto_region 11 with fail
     rw [← EV20.out.1, ← EV20.out.2]
     replace hA := hA.below bV20 hA.lt
     replace hR := hR.below bV20 hR.lt
     replace q5 := q5.below bV20
     replace h12 := h12.below bV20 h12.lt
     replace q6 := q6.below bV20
     replace h14 := h14.below bV20 h14.lt
     replace h16 := h16.below bV20 h16.lt
     replace q9 := q9.below bV20
     replace q10 := q10.below bV20
     replace q13 := q13.below bV20
     replace q14 := q14.below bV20
     replace hB := hB.trans (bV20.mono hB.size)
     clear c264 c265 c266 c267 c268 c269 c270 c271 c272 c273 c274 c275 c276 c277 c278 c279 c280 c281 c282 c283 c284 c285 c286 c287 c288 c289 c290 c291 c292 c293
     obtain ⟨c294, c295, c296, c297, c298, c299⟩ := hA.q6
     obtain ⟨c300, c301, c302, c303, c304, c305⟩ := hR.q6
     obtain ⟨c306, c307, c308⟩ := h12.q3
     obtain ⟨c309, c310, c311⟩ := h14.q3
     obtain ⟨c312, c313, c314, c315, c316, c317⟩ := h16.q6
     obtain ⟨c318, c319, c320, c321, c322, c323⟩ := h20.q6
     clear c294 c295 c296 c297 c298 c299 c300 c301 c302 c303 c304 c305 c306 c307 c308 c309 c310 c311 c312 c313 c314 c315 c316 c317 c318 c319 c320 c321 c322 c323
     replace hB := hB.drew
     replace hA := hA.drew
     replace hR := hR.drew
     replace q5 := q5.below (bdrew _)
     replace h12 := h12.drew
     replace q6 := q6.below (bdrew _)
     replace h14 := h14.drew
     replace h16 := h16.drew
     replace q9 := q9.below (bdrew _)
     replace q10 := q10.below (bdrew _)
     replace q13 := q13.below (bdrew _)
     replace q14 := q14.below (bdrew _)
     replace h20 := h20.drew
     refine wp_region_noPanic ?_
     refine wp_region_held_drew (S := fun w' => World.grownBy V20.drew w' (some (V20.drew.heap.size))) (by kernel_rfl) (grown_of (Below.refl _ _) _) (fun hHeld => ?_)
     obtain ⟨wd11_4, hwd⟩ : ∃ q, q = V20.drew := ⟨_, rfl⟩
     rw [← hwd] at hB hA hR q5 h12 q6 h14 h16 q9 q10 q13 q14 h20 hHeld ⊢
     clear hwd
     refine tkH 0 rfl (v := ?v17) ?h17 ?r17
     case h17 =>
       intro w hSw
       (try dsimp only at hSw)
       obtain ⟨yh16_0, yh16_1, yh16_2, yh16_3, yh16_4, yh16_5⟩ := (Blk.grownT h16 hSw (fun e => absurd (Option.some.inj e) (Nat.ne_of_lt h16.lt))).q6
       obtain ⟨yh20_0, yh20_1, yh20_2, yh20_3, yh20_4, yh20_5⟩ := (Blk.grownT h20 hSw (fun e => absurd (Option.some.inj e) (Nat.ne_of_lt h20.lt))).q6
       obtain ⟨yh12_0, yh12_1, yh12_2⟩ := (Blk.grownT h12 hSw (fun e => absurd (Option.some.inj e) (Nat.ne_of_lt h12.lt))).q3
       go_simp
       try (with_reducible rfl)
     refine tkH 1 rfl (v := ?v18) ?h18 ?r18
     case h18 =>
       intro w hSw
       (try dsimp only at hSw)
       obtain ⟨yh16_0, yh16_1, yh16_2, yh16_3, yh16_4, yh16_5⟩ := (Blk.grownT h16 hSw (fun e => absurd (Option.some.inj e) (Nat.ne_of_lt h16.lt))).q6
       obtain ⟨yh20_0, yh20_1, yh20_2, yh20_3, yh20_4, yh20_5⟩ := (Blk.grownT h20 hSw (fun e => absurd (Option.some.inj e) (Nat.ne_of_lt h20.lt))).q6
       obtain ⟨yh12_0, yh12_1, yh12_2⟩ := (Blk.grownT h12 hSw (fun e => absurd (Option.some.inj e) (Nat.ne_of_lt h12.lt))).q3
       go_simp
       try (with_reducible rfl)
     refine tkH 2 rfl (v := ?v19) ?h19 ?r19
     case h19 =>
       intro w hSw
       (try dsimp only at hSw)
       obtain ⟨yh16_0, yh16_1, yh16_2, yh16_3, yh16_4, yh16_5⟩ := (Blk.grownT h16 hSw (fun e => absurd (Option.some.inj e) (Nat.ne_of_lt h16.lt))).q6
       obtain ⟨yh20_0, yh20_1, yh20_2, yh20_3, yh20_4, yh20_5⟩ := (Blk.grownT h20 hSw (fun e => absurd (Option.some.inj e) (Nat.ne_of_lt h20.lt))).q6
       obtain ⟨yh12_0, yh12_1, yh12_2⟩ := (Blk.grownT h12 hSw (fun e => absurd (Option.some.inj e) (Nat.ne_of_lt h12.lt))).q3
       go_simp
       try (with_reducible rfl)
     try simp only [Act.put, lay1, lay2, lay3, lay4, lay5, lay6]
     refine wpAnyH_facts [(3, 96), (4, 97), (5, 98), (9, 22)] [(6, 92), (7, 99), (8, 100)] [8] (pick [(3, fun (v : Value) (w : World) => ∃ u3, u3 = v ∧ IsS w u3 re re), (4, fun (v : Value) (w : World) => ∃ u4, u4 = v ∧ IsS w u4 dl dh), (5, fun (v : Value) (w : World) => ∃ u6, .tuple #[u6, .int .i64 0] = v ∧ IsS w u6 ul uh), (6, fun (v : Value) (w : World) => ∃ u6, .tuple #[u6, .int .i64 0] = v ∧ IsS w u6 ul uh), (7, fun (v : Value) (w : World) => ∃ u6, u6 = v ∧ IsS w u6 ul uh), (8, fun (v : Value) (w : World) => .int .i64 0 = v), (9, fun (v : Value) (w : World) => ∃ XPE, .pointer (some ⟨XPE, 0, none⟩) = v ∧ wd11_4.heap.size ≤ XPE ∧ Blk w XPE 46 #[.bool false, .slice none 0 0, .slice none 0 0, .bool false, .slice none 0 0, .slice none 0 0])]) #[true, true, true, true, true, true, true, true, true, true, false, false] (fun _ h => grown_of h _) (pick_pers (show PersAll _ from ⟨fun _ _ _ b ⟨u3, e, g3⟩ => ⟨u3, e, g3.below b⟩, fun _ _ _ b ⟨u4, e, g4⟩ => ⟨u4, e, g4.below b⟩, fun _ _ _ b ⟨u6, e, g6⟩ => ⟨u6, e, g6.below b⟩, fun _ _ _ b ⟨u6, e, g6⟩ => ⟨u6, e, g6.below b⟩, fun _ _ _ b ⟨u6, e, g6⟩ => ⟨u6, e, g6.below b⟩, fun _ _ _ _ e => e, fun _ _ _ b ⟨X, e, l, h⟩ => ⟨X, e, l, h.below b h.lt⟩, trivial⟩)) (hord_of (by kernel_rfl)) (by kernel_rfl) (by kernel_rfl) (by kernel_rfl) (by kernel_rfl) (fun _ _ _ _ _ h => h) ?ops4 ?pur4 ?done4 (Below.refl _ _) (Nat.le_of_ble_eq_true (by kernel_rfl))
     case ops4 =>
       refine .cons rfl (fun a w hS K hK => ?_) ?_
       · have q5 := q5.below hS.1
         have e95 := hS.2.1 95 _ (by kernel_rfl) rfl
         go_simp
         refine (hIv _ _ _ q5).mono ?_
         rintro e w' ⟨u3, rfl, g3, b⟩
         exact hK _ _ ⟨u3, rfl, g3⟩ b
       refine .cons rfl (fun a w hS K hK => ?_) ?_
       · have q13 := q13.below hS.1
         have q14 := q14.below hS.1
         have e94 := hS.2.1 94 _ (by kernel_rfl) rfl
         obtain ⟨v96, e96, u3, rfl, g3⟩ := hS.2.2 3 96 (by kernel_rfl)
         go_simp
         refine (hAd _ _ _ ⟨_, _, _, _, _, _, rfl, q13, q14⟩ g3).mono ?_
         rintro e w' ⟨u4, rfl, g4, b⟩
         exact hK _ _ ⟨u4, rfl, g4⟩ b
       refine .cons rfl (fun a w hS K hK => ?_) ?_
       · have q9 := q9.below hS.1
         have q10 := q10.below hS.1
         have e93 := hS.2.1 93 _ (by kernel_rfl) rfl
         obtain ⟨v97, e97, u4, rfl, g4⟩ := hS.2.2 4 97 (by kernel_rfl)
         go_simp
         refine (hDv3 _ _ _ ⟨_, _, _, _, _, _, rfl, q9, q10⟩ g4).mono ?_
         rintro e w' ⟨u6, rfl, g6, b⟩
         exact hK _ _ ⟨u6, rfl, g6⟩ b
       refine .cons rfl (fun a w hS K hK => ?_) ?_
       · go_simp
         exact hK _ _ ⟨_, rfl, hS.1.size, Blk.new w _ _⟩ ((Below.refl _ w).alloc (Nat.le_refl _) _)
       exact .nil
     case pur4 =>
       refine .cons rfl (fun a w hS => ?_) ?_
       · obtain ⟨v98, e98, u6, rfl, g6⟩ := hS.2.2 5 98 (by kernel_rfl)
         exact ⟨_, fun w' => by go_simp <;> rfl, ⟨u6, rfl, g6⟩⟩
       refine .cons rfl (fun a w hS => ?_) ?_
       · obtain ⟨v92, e92, u6, rfl, g6⟩ := hS.2.2 6 92 (by kernel_rfl)
         exact ⟨_, fun w' => by go_simp <;> rfl, ⟨u6, rfl, g6⟩⟩
       refine .cons rfl (fun a w hS => ?_) ?_
       · obtain ⟨v92, e92, u6, rfl, g6⟩ := hS.2.2 6 92 (by kernel_rfl)
         exact ⟨_, fun w' => by go_simp <;> rfl, rfl⟩
       exact .nil
     case done4 =>
       intro fuel a wr11_4 hf hS hdf hsz hs hd
       obtain ⟨fuel, rfl⟩ : ∃ n, fuel = n + 2 := ⟨fuel - 2, by have h : 2 ≤ fuel := Nat.le_trans (Nat.le_of_ble_eq_true (by kernel_rfl)) hf; omega⟩
       clear hf
       have nhA := hA.lt
       replace hA := hA.below hS nhA
       have nhR := hR.lt
       replace hR := hR.below hS nhR
       replace q5 := q5.below hS
       have nh12 := h12.lt
       replace h12 := h12.below hS nh12
       replace q6 := q6.below hS
       have nh14 := h14.lt
       replace h14 := h14.below hS nh14
       have nh16 := h16.lt
       replace h16 := h16.below hS nh16
       replace q9 := q9.below hS
       replace q10 := q10.below hS
       replace q13 := q13.below hS
       replace q14 := q14.below hS
       have nh20 := h20.lt
       replace h20 := h20.below hS nh20
       obtain ⟨v96_, e96_, u3, rfl, g3⟩ := hd 3 96 (by kernel_rfl)
       obtain ⟨v97_, e97_, u4, rfl, g4⟩ := hd 4 97 (by kernel_rfl)
       obtain ⟨v98_, e98_, u6_5, rfl, -⟩ := hd 5 98 (by kernel_rfl)
       obtain ⟨v92_, e92_, u6_6, rfl, -⟩ := hd 6 92 (by kernel_rfl)
       obtain ⟨v99_, e99_, u6, rfl, g6⟩ := hd 7 99 (by kernel_rfl)
       obtain ⟨v100_, e100_, rfl⟩ := hd 8 100 (by kernel_rfl)
       obtain ⟨v22_, e22_, XPE, rfl, lXPE, h22⟩ := hd 9 22 (by kernel_rfl)
       obtain rfl := act_of [(96, u3), (97, u4), (98, .tuple #[u6_5, .int .i64 0]), (22, .pointer (some ⟨XPE, 0, none⟩)), (92, .tuple #[u6_6, .int .i64 0]), (99, u6), (100, .int .i64 0)] ⟨e96_, e97_, e98_, e22_, e92_, e99_, e100_, trivial⟩ hdf hsz (fun s h => hs s h)
       simp only [putAll, List.set_cons_zero, List.set_cons_succ]
       clear hdf hsz hs hd e96_ e97_ e98_ e22_ e92_ e99_ e100_
       have kXPE : w.heap.size ≤ XPE := Nat.le_trans hB.size lXPE
       have dXPE_hA : g ≠ XPE := Nat.ne_of_lt (Nat.lt_of_lt_of_le nhA lXPE)
       have dXPE_hR : g + 1 + 1 ≠ XPE := Nat.ne_of_lt (Nat.lt_of_lt_of_le nhR lXPE)
       have dXPE_h12 : X8 ≠ XPE := Nat.ne_of_lt (Nat.lt_of_lt_of_le nh12 lXPE)
       have dXPE_h14 : X12 ≠ XPE := Nat.ne_of_lt (Nat.lt_of_lt_of_le nh14 lXPE)
       have dXPE_h16 : XPC ≠ XPE := Nat.ne_of_lt (Nat.lt_of_lt_of_le nh16 lXPE)
       have dXPE_h20 : X20 ≠ XPE := Nat.ne_of_lt (Nat.lt_of_lt_of_le nh20 lXPE)
       replace hB := hB.trans (hS.mono hB.size)
       clear nhA nhR nh12 nh14 nh16 nh20
       obtain ⟨s27, A27, L27, C27, D27, M27, E27, s28, A28, L28, C28, D28, M28, E28, rfl, q27, q28⟩ := g6.opn
       clear g3
       clear g4
       clear q13
       clear q14
       clear q9
       clear q10
       clear h16
       clear h20
       clear h12
       clear q5
       have hG := grown_of hS (some (wd11_4.heap.size))
       refine rd1 10 rfl fun K hK => ?_
       obtain ⟨ws11_10, eu, h22', kz, kb, kB⟩ := fill6 h22 (.bool s27) (.slice A27 L27 C27) (.slice D27 M27 E27) (.bool s28) (.slice A28 L28 C28) (.slice D28 M28 E28) (by simp [noU])
       have x0 : World.cell? _ ⟨XPE, 0, none⟩ = some (.bool false) := h22.cell 0
       have x1 : World.cell? _ ⟨XPE, 1, none⟩ = some (.slice none 0 0) := h22.cell 1
       have x2 : World.cell? _ ⟨XPE, 2, none⟩ = some (.slice none 0 0) := h22.cell 2
       have x3 : World.cell? _ ⟨XPE, 3, none⟩ = some (.bool false) := h22.cell 3
       have x4 : World.cell? _ ⟨XPE, 4, none⟩ = some (.slice none 0 0) := h22.cell 4
       have x5 : World.cell? _ ⟨XPE, 5, none⟩ = some (.slice none 0 0) := h22.cell 5
       have xf := h22.frozen
       replace hG := (grown_set (grown_set (grown_set (grown_set (grown_set (grown_set hG (p := ⟨XPE, 0, none⟩) (.inr (by assumption)) (.bool s27)) (p := ⟨XPE, 1, none⟩) (.inr (by assumption)) (.slice A27 L27 C27)) (p := ⟨XPE, 2, none⟩) (.inr (by assumption)) (.slice D27 M27 E27)) (p := ⟨XPE, 3, none⟩) (.inr (by assumption)) (.bool s28)) (p := ⟨XPE, 4, none⟩) (.inr (by assumption)) (.slice A28 L28 C28)) (p := ⟨XPE, 5, none⟩) (.inr (by assumption)) (.slice D28 M28 E28))
       rw [← eu] at hG
       go_simp
       rw [← eu]
       replace hA := kb _ _ _ hA (by first | assumption | exact Ne.symm (by assumption) | omega)
       replace hR := kb _ _ _ hR (by first | assumption | exact Ne.symm (by assumption) | omega)
       replace q6 := q6.filled kz
       replace h14 := kb _ _ _ h14 (by first | assumption | exact Ne.symm (by assumption) | omega)
       replace q27 := q27.filled kz
       replace q28 := q28.filled kz
       replace hB := kB _ _ (by omega) hB
       replace h22 := h22'
       clear h22' kz kb kB eu xf x0 x1 x2 x3 x4 x5
       refine hK.out _ _ hG (fun hHeld => ?_)
       clear hK K
       try simp only [lay4, lay5, lay6]
       refine tkH 11 rfl (v := ?v20) ?h20 ?r20 (hS := hG)
       case h20 =>
         intro w hSw
         (try dsimp only at hSw)
         go_simp
         try (with_reducible rfl)
       try simp only [Act.put, lay1, lay2, lay3, lay4, lay5, lay6]
       try dsimp only
       try simp only [Act.put, lay1, lay2, lay3, lay4, lay5, lay6]
       refine wpAnyH_done (by kernel_rfl) ?_ _
       refine NoPanic.normal ?_
       clear hG
       obtain ⟨c324, c325, c326, c327, c328, c329⟩ := hA.q6
       obtain ⟨c330, c331, c332, c333, c334, c335⟩ := hR.q6
       obtain ⟨c336, c337, c338⟩ := h14.q3
       obtain ⟨c339, c340, c341, c342, c343, c344⟩ := h22.q6
       go_upto_region 12 with fail
       clear c324 c325 c326 c327 c328 c329 c330 c331 c332 c333 c334 c335 c336 c337 c338 c339 c340 c341 c342 c343 c344
       replace hB := hB.drew
       replace hA := hA.drew
       replace hR := hR.drew
       replace q6 := q6.below (bdrew _)
       replace h14 := h14.drew
       replace h22 := h22.drew
       replace q27 := q27.below (bdrew _)
       replace q28 := q28.below (bdrew _)
       refine wp_region_noPanic ?_
       refine wp_region_held_drew (S := fun w' => World.grownBy ws11_10.drew w' (some (g + 1 + 1))) (by kernel_rfl) (grown_of (Below.refl _ _) _) (fun hHeld => ?_)
       obtain ⟨wd12_5, hwd⟩ : ∃ q, q = ws11_10.drew := ⟨_, rfl⟩
       rw [← hwd] at hB hA hR q6 h14 h22 q27 q28 hHeld ⊢
       clear hwd
       refine tkH 0 rfl (v := ?v21) ?h21 ?r21
       case h21 =>
         intro w hSw
         (try dsimp only at hSw)
         obtain ⟨yh14_0, yh14_1, yh14_2⟩ := (Blk.grownT h14 hSw (fun e => absurd (Option.some.inj e) (by first | assumption | exact Ne.symm (by assumption) | omega))).q3
         obtain ⟨yh22_0, yh22_1, yh22_2, yh22_3, yh22_4, yh22_5⟩ := (Blk.grownT h22 hSw (fun e => absurd (Option.some.inj e) (by first | assumption | exact Ne.symm (by assumption) | omega))).q6
         go_simp
         try (with_reducible rfl)
       refine tkH 2 rfl (v := ?v22) ?h22 ?r22
       case h22 =>
         intro w hSw
         (try dsimp only at hSw)
         obtain ⟨yh14_0, yh14_1, yh14_2⟩ := (Blk.grownT h14 hSw (fun e => absurd (Option.some.inj e) (by first | assumption | exact Ne.symm (by assumption) | omega))).q3
         obtain ⟨yh22_0, yh22_1, yh22_2, yh22_3, yh22_4, yh22_5⟩ := (Blk.grownT h22 hSw (fun e => absurd (Option.some.inj e) (by first | assumption | exact Ne.symm (by assumption) | omega))).q6
         go_simp
         try (with_reducible rfl)
       try simp only [Act.put, lay1, lay2, lay3, lay4, lay5, lay6]
       refine wpAnyH_facts [(1, 102), (3, 104), (4, 105)] [(5, 106), (6, 107)] [] (pick [(1, fun (v : Value) (w : World) => ∃ u3, u3 = v ∧ IsS w u3 rl rl), (3, fun (v : Value) (w : World) => ∃ u5, u5 = v ∧ IsS w u5 pl ph), (4, fun (v : Value) (w : World) => ∃ u6, .tuple #[u6, .int .i64 0] = v ∧ IsS w u6 ol oh), (5, fun (v : Value) (w : World) => ∃ u6, u6 = v ∧ IsS w u6 ol oh), (6, fun (v : Value) (w : World) => .int .i64 0 = v)]) #[true, true, true, true, true, true, true, false, false] (fun _ h => grown_of h _) (pick_pers (show PersAll _ from ⟨fun _ _ _ b ⟨u3, e, g3⟩ => ⟨u3, e, g3.below b⟩, fun _ _ _ b ⟨u5, e, g5⟩ => ⟨u5, e, g5.below b⟩, fun _ _ _ b ⟨u6, e, g6⟩ => ⟨u6, e, g6.below b⟩, fun _ _ _ b ⟨u6, e, g6⟩ => ⟨u6, e, g6.below b⟩, fun _ _ _ _ e => e, trivial⟩)) (hord_of (by kernel_rfl)) (by kernel_rfl) (by kernel_rfl) (by kernel_rfl) (by kernel_rfl) (fun _ _ _ _ _ h => h) ?ops5 ?pur5 ?done5 (Below.refl _ _) (Nat.le_of_ble_eq_true (by kernel_rfl))
       case ops5 =>
         refine .cons rfl (fun a w hS K hK => ?_) ?_
         · have q6 := q6.below hS.1
           have e101 := hS.2.1 101 _ (by kernel_rfl) rfl
           go_simp
           refine (hIv _ _ _ q6).mono ?_
           rintro e w' ⟨u3, rfl, g3, b⟩
           exact hK _ _ ⟨u3, rfl, g3⟩ b
         refine .cons rfl (fun a w hS K hK => ?_) ?_
         · have q27 := q27.below hS.1
           have q28 := q28.below hS.1
           obtain ⟨v102, e102, u3, rfl, g3⟩ := hS.2.2 1 102 (by kernel_rfl)
           have e103 := hS.2.1 103 _ (by kernel_rfl) rfl
           go_simp
           refine (hMu _ _ _ g3 ⟨_, _, _, _, _, _, rfl, q27, q28⟩).mono ?_
           rintro e w' ⟨u5, rfl, g5, b⟩
           exact hK _ _ ⟨u5, rfl, g5⟩ b
         refine .cons rfl (fun a w hS K hK => ?_) ?_
         · obtain ⟨v104, e104, u5, rfl, g5⟩ := hS.2.2 3 104 (by kernel_rfl)
           go_simp
           refine (hOu _ _ g5).mono ?_
           rintro e w' ⟨u6, rfl, g6, b⟩
           exact hK _ _ ⟨u6, rfl, g6⟩ b
         exact .nil
       case pur5 =>
         refine .cons rfl (fun a w hS => ?_) ?_
         · obtain ⟨v105, e105, u6, rfl, g6⟩ := hS.2.2 4 105 (by kernel_rfl)
           exact ⟨_, fun w' => by go_simp <;> rfl, ⟨u6, rfl, g6⟩⟩
         refine .cons rfl (fun a w hS => ?_) ?_
         · obtain ⟨v105, e105, u6, rfl, g6⟩ := hS.2.2 4 105 (by kernel_rfl)
           exact ⟨_, fun w' => by go_simp <;> rfl, rfl⟩
         exact .nil
       case done5 =>
         intro fuel a wr12_5 hf hS hdf hsz hs hd
         obtain ⟨fuel, rfl⟩ : ∃ n, fuel = n + 2 := ⟨fuel - 2, by have h : 2 ≤ fuel := Nat.le_trans (Nat.le_of_ble_eq_true (by kernel_rfl)) hf; omega⟩
         clear hf
         have nhA := hA.lt
         replace hA := hA.below hS nhA
         have nhR := hR.lt
         replace hR := hR.below hS nhR
         replace q6 := q6.below hS
         have nh14 := h14.lt
         replace h14 := h14.below hS nh14
         have nh22 := h22.lt
         replace h22 := h22.below hS nh22
         replace q27 := q27.below hS
         replace q28 := q28.below hS
         obtain ⟨v102_, e102_, u3, rfl, g3⟩ := hd 1 102 (by kernel_rfl)
         obtain ⟨v104_, e104_, u5, rfl, g5⟩ := hd 3 104 (by kernel_rfl)
         obtain ⟨v105_, e105_, u6_4, rfl, -⟩ := hd 4 105 (by kernel_rfl)
         obtain ⟨v106_, e106_, u6, rfl, g6⟩ := hd 5 106 (by kernel_rfl)
         obtain ⟨v107_, e107_, rfl⟩ := hd 6 107 (by kernel_rfl)
         obtain rfl := act_of [(102, u3), (104, u5), (105, .tuple #[u6_4, .int .i64 0]), (106, u6), (107, .int .i64 0)] ⟨e102_, e104_, e105_, e106_, e107_, trivial⟩ hdf hsz (fun s h => hs s h)
         simp only [putAll, List.set_cons_zero, List.set_cons_succ]
         clear hdf hsz hs hd e102_ e104_ e105_ e106_ e107_
         replace hB := hB.trans (hS.mono hB.size)
         clear nhA nhR nh14 nh22
         obtain ⟨s23, A23, L23, C23, D23, M23, E23, s24, A24, L24, C24, D24, M24, E24, rfl, q23, q24⟩ := g6.opn
         clear g3
         clear g5
         clear q27
         clear q28
         clear h22
         clear h14
         clear q6
         have hG := grown_of hS (some (g + 1 + 1))
         refine rd1 7 rfl fun K hK => ?_
         obtain ⟨ws12_7, eu, hR', kz, kb, kB⟩ := fill6 hR (.bool s23) (.slice A23 L23 C23) (.slice D23 M23 E23) (.bool s24) (.slice A24 L24 C24) (.slice D24 M24 E24) (by simp [noU])
         have x0 : World.cell? _ ⟨g + 1 + 1, 0, none⟩ = some (.bool false) := hR.cell 0
         have x1 : World.cell? _ ⟨g + 1 + 1, 1, none⟩ = some (.slice none 0 0) := hR.cell 1
         have x2 : World.cell? _ ⟨g + 1 + 1, 2, none⟩ = some (.slice none 0 0) := hR.cell 2
         have x3 : World.cell? _ ⟨g + 1 + 1, 3, none⟩ = some (.bool false) := hR.cell 3
         have x4 : World.cell? _ ⟨g + 1 + 1, 4, none⟩ = some (.slice none 0 0) := hR.cell 4
         have x5 : World.cell? _ ⟨g + 1 + 1, 5, none⟩ = some (.slice none 0 0) := hR.cell 5
         have xf := hR.frozen
         replace hG := (grown_set (grown_set (grown_set (grown_set (grown_set (grown_set hG (p := ⟨g + 1 + 1, 0, none⟩) (.inl rfl) (.bool s23)) (p := ⟨g + 1 + 1, 1, none⟩) (.inl rfl) (.slice A23 L23 C23)) (p := ⟨g + 1 + 1, 2, none⟩) (.inl rfl) (.slice D23 M23 E23)) (p := ⟨g + 1 + 1, 3, none⟩) (.inl rfl) (.bool s24)) (p := ⟨g + 1 + 1, 4, none⟩) (.inl rfl) (.slice A24 L24 C24)) (p := ⟨g + 1 + 1, 5, none⟩) (.inl rfl) (.slice D24 M24 E24))
         rw [← eu] at hG
         go_simp
         rw [← eu]
         replace hA := kb _ _ _ hA (by first | assumption | exact Ne.symm (by assumption) | omega)
         replace q23 := q23.filled kz
         replace q24 := q24.filled kz
         replace hB := kB _ _ (by omega) hB
         replace hR := hR'
         clear hR' kz kb kB eu xf x0 x1 x2 x3 x4 x5
         refine hK.out _ _ hG (fun hHeld => ?_)
         clear hK K
         try simp only [lay4, lay5, lay6]
         refine tkH 8 rfl (v := ?v23) ?h23 ?r23 (hS := hG)
         case h23 =>
           intro w hSw
           (try dsimp only at hSw)
           go_simp
           try (with_reducible rfl)
         try simp only [Act.put, lay1, lay2, lay3, lay4, lay5, lay6]
         try dsimp only
         try simp only [Act.put, lay1, lay2, lay3, lay4, lay5, lay6]
         refine wpAnyH_done (by kernel_rfl) ?_ _
         refine NoPanic.normal ?_
         clear hG
         obtain ⟨c345, c346, c347, c348, c349, c350⟩ := hA.q6
         obtain ⟨c351, c352, c353, c354, c355, c356⟩ := hR.q6
         dsimp only [Exit.then]
         refine (by assumption : ∀ (a : Act) (w : World), Code.wp Tryz.prog Code.ret _ a w → _) _ _ ?_
         first | refine Go.wp_ret ?_ | refine Go.Code.wp_ret ?_
         exact bodyPost_ret (v := .tuple #[.agg #[.bool s23, .slice A23 L23 C23, .slice D23 M23 E23, .bool s24, .slice A24 L24 C24, .slice D24 M24 E24], .int .i64 0]) (by simp [results, Tryz.results32, go_sem, c351, c352, c353, c354, c355, c356]) rfl ⟨_, rfl, ⟨_, _, _, _, _, _, rfl, q23, q24⟩, hB⟩
set_option maxRecDepth 100000 in
set_option maxHeartbeats 8000000 in
theorem pupdno_any (lr b1 b2 eps wd : Int) (apart : Bool) (f t : Int) (w : World) (A1 D1 A2 D2 A3 D3 A4 D4 : Option Addr) (L1 C1 M1 E1 L2 C2 M2 E2 L3 C3 M3 E3 L4 C4 M4 E4 : Nat) (s1 s2 s3 s4 : Bool)
   (hbad : rightA lr b1 b2 eps wd f = false ∨ (rightA lr b1 b2 eps wd f = true ∧ decide (t < 1) = true) ∨ (rightA lr b1 b2 eps wd f = true ∧ decide (t < 1) = false ∧ decide (30 < t) = true) ∨ (rightA lr b1 b2 eps wd f = true ∧ decide (t < 1) = false ∧ decide (30 < t) = false ∧ s4 = true)) :
   Calls Tryz.prog 32 #[.agg #[.int .i64 lr, .int .i64 b1, .int .i64 b2, .int .i64 eps, .int .i64 wd, .bool apart], .int .i64 f, .int .i64 t, .agg #[.bool s1, .slice A1 L1 C1, .slice D1 M1 E1, .bool s2, .slice A2 L2 C2, .slice D2 M2 E2, .bool s3, .slice A3 L3 C3, .slice D3 M3 E3, .bool s4, .slice A4 L4 C4, .slice D4 M4 E4]] w fun e w' => e = .returned (.tuple #[.agg #[.bool false, .slice none 0 0, .slice none 0 0, .bool false, .slice none 0 0, .slice none 0 0], .int .i64 1]) ∧ Below w.heap.size w w' := by
 have hRi := fun w => aright_any lr b1 b2 eps wd f apart w
 generalize rightA lr b1 b2 eps wd f = ra at *
 have hbad := Lib.hid hbad
 obtain ⟨g, hg⟩ : ∃ g, g = w.heap.size := ⟨_, rfl⟩
 obtain ⟨Y0, eY0, hA, bY0⟩ := box1 w 61 #[.int .i64 lr, .int .i64 b1, .int .i64 b2, .int .i64 eps, .int .i64 wd, .bool apart]
 have zY0 : Y0.heap.size = g + 1 := by rw [eY0, World.size_alloc, ← hg]
 rw [← hg] at hA
 have hB := bY0
 obtain ⟨Y1, eY1, h7, bY1⟩ := box1 Y0 67 #[.bool s1, .slice A1 L1 C1, .slice D1 M1 E1, .bool s2, .slice A2 L2 C2, .slice D2 M2 E2, .bool s3, .slice A3 L3 C3, .slice D3 M3 E3, .bool s4, .slice A4 L4 C4, .slice D4 M4 E4]
 have zY1 : Y1.heap.size = g + 1 + 1 := by rw [eY1, World.size_alloc, zY0]
 rw [zY0] at h7
 replace hA := hA.below bY1 hA.lt
 replace hB := hB.trans (bY1.mono hB.size)
 obtain ⟨Y2, eY2, hR, bY2⟩ := box1 Y1 46 #[.bool false, .slice none 0 0, .slice none 0 0, .bool false, .slice none 0 0, .slice none 0 0]
 have zY2 : Y2.heap.size = g + 1 + 1 + 1 := by rw [eY2, World.size_alloc, zY1]
 rw [zY1] at hR
 replace hA := hA.below bY2 hA.lt
 replace h7 := h7.below bY2 h7.lt
 replace hB := hB.trans (bY2.mono hB.size)
 have hgw : w.heap.size ≤ g := by omega
 have EY := Lib.hid (And.intro hg (And.intro eY0 (And.intro eY1 eY2)))
 clear hg eY0 zY0 eY1 zY1 eY2 zY2
 obtain ⟨c0, c1, c2, c3, c4, c5⟩ := hA.q6
 obtain ⟨c6, c7, c8, c9, c10, c11, c12, c13, c14, c15, c16, c17⟩ := h7.q12
 obtain ⟨c18, c19, c20, c21, c22, c23⟩ := hR.q6
 go_enter Tryz.func32, Tryz.ntmps32
 go_upto_region 1 with fail
 rw [← EY.out.2.1, ← EY.out.2.2.1, ← EY.out.2.2.2, ← EY.out.1]
 replace hB := hB.drew
 replace hA := hA.drew
 replace h7 := h7.drew
 replace hR := hR.drew
 clear c0 c1 c2 c3 c4 c5 c6 c7 c8 c9 c10 c11 c12 c13 c14 c15 c16 c17 c18 c19 c20 c21 c22 c23
 go_cut [10, 11] (fun s10 s11 wx => ∃ XPA XPB, s10 = .pointer (some ⟨XPA, 0, none⟩) ∧ s11 = .pointer (some ⟨XPB, 0, none⟩) ∧ Blk wx g 61 #[.int .i64 lr, .int .i64 b1, .int .i64 b2, .int .i64 eps, .int .i64 wd, .bool apart] ∧ Blk wx (g + 1 + 1) 46 #[.bool false, .slice none 0 0, .slice none 0 0, .bool false, .slice none 0 0, .slice none 0 0] ∧ Blk wx XPA 46 #[.bool s1, .slice A1 L1 C1, .slice D1 M1 E1, .bool s2, .slice A2 L2 C2, .slice D2 M2 E2] ∧ Blk wx XPB 46 #[.bool s3, .slice A3 L3 C3, .slice D3 M3 E3, .bool s4, .slice A4 L4 C4, .slice D4 M4 E4] ∧ Below w.heap.size w wx ∧ w.heap.size ≤ XPA ∧ w.heap.size ≤ XPB ∧ g ≠ XPA ∧ g + 1 + 1 ≠ XPA ∧ g ≠ XPB ∧ g + 1 + 1 ≠ XPB ∧ XPA ≠ XPB)
 case first =>
   refine wp_region_noPanic ?_
   refine wp_region_held_drew (S := fun w' => w'.cell? ⟨g + 1, 0, none⟩ = some (.bool s1) ∧ w'.cell? ⟨g + 1, 1, none⟩ = some (.slice A1 L1 C1) ∧ w'.cell? ⟨g + 1, 2, none⟩ = some (.slice D1 M1 E1) ∧ w'.cell? ⟨g + 1, 3, none⟩ = some (.bool s2) ∧ w'.cell? ⟨g + 1, 4, none⟩ = some (.slice A2 L2 C2) ∧ w'.cell? ⟨g + 1, 5, none⟩ = some (.slice D2 M2 E2) ∧ w'.cell? ⟨g + 1, 6, none⟩ = some (.bool s3) ∧ w'.cell? ⟨g + 1, 7, none⟩ = some (.slice A3 L3 C3) ∧ w'.cell? ⟨g + 1, 8, none⟩ = some (.slice D3 M3 E3) ∧ w'.cell? ⟨g + 1, 9, none⟩ = some (.bool s4) ∧ w'.cell? ⟨g + 1, 10, none⟩ = some (.slice A4 L4 C4) ∧ w'.cell? ⟨g + 1, 11, none⟩ = some (.slice D4 M4 E4)) (by kernel_rfl) ?_ (fun hHeld => ?_)
   · exact ⟨h7.cell 0, h7.cell 1, h7.cell 2, h7.cell 3, h7.cell 4, h7.cell 5, h7.cell 6, h7.cell 7, h7.cell 8, h7.cell 9, h7.cell 10, h7.cell 11⟩
   obtain ⟨wd1_1, hwd⟩ : ∃ q, q = Y2.drew := ⟨_, rfl⟩
   rw [← hwd] at hB hA h7 hR hHeld ⊢
   clear hwd
   refine tkH 0 rfl (v := ?v1) ?h1 ?r1
   case h1 => intro w hSw; (try dsimp only at hSw); go_simp; try (with_reducible rfl)
   refine tkH 1 rfl (v := ?v2) ?h2 ?r2
   case h2 => intro w hSw; (try dsimp only at hSw); go_simp; try (with_reducible rfl)
   refine tkH 2 rfl (v := ?v3) ?h3 ?r3
   case h3 => intro w hSw; (try dsimp only at hSw); go_simp; try (with_reducible rfl)
   refine tkH 3 rfl (v := ?v4) ?h4 ?r4
   case h4 => intro w hSw; (try dsimp only at hSw); go_simp; try (with_reducible rfl)
   try simp only [Act.put, lay1, lay2, lay3, lay4, lay5, lay6]
   refine rd2 4 5 rfl rfl (fun K hK => ?_) fun K hK => ?_
   · obtain ⟨u1_1, eu, h10, b1_1⟩ := box1 wd1_1 46 #[.bool false, .slice none 0 0, .slice none 0 0, .bool false, .slice none 0 0, .slice none 0 0]
     obtain ⟨XPA, en⟩ : ∃ X, X = wd1_1.heap.size := ⟨_, rfl⟩
     rw [← en] at h10
     have lXPA : w.heap.size ≤ XPA := by rw [en]; exact hB.size
     have dXPA_hA : g ≠ XPA := by have := hA.lt; omega
     have dXPA_h7 : g + 1 ≠ XPA := by have := h7.lt; omega
     have dXPA_hR : g + 1 + 1 ≠ XPA := by have := hR.lt; omega
     have EUXPA := Lib.hid (And.intro eu en)
     clear eu en
     go_simp
     rw [← EUXPA.out.1, ← EUXPA.out.2]
     replace hA := hA.below b1_1 hA.lt
     replace h7 := h7.below b1_1 h7.lt
     replace hR := hR.below b1_1 hR.lt
     replace hB := hB.trans (b1_1.mono hB.size)
     refine hK.out _ _ ?_ (fun hHeld => ?_)
     · exact ⟨h7.cell 0, h7.cell 1, h7.cell 2, h7.cell 3, h7.cell 4, h7.cell 5, h7.cell 6, h7.cell 7, h7.cell 8, h7.cell 9, h7.cell 10, h7.cell 11⟩
     clear hK K
     try simp only [Act.put, lay1, lay2, lay3, lay4, lay5, lay6]
     refine rd1 5 rfl fun K hK => ?_
     obtain ⟨u1_2, eu, h11, b1_2⟩ := box1 u1_1 46 #[.bool false, .slice none 0 0, .slice none 0 0, .bool false, .slice none 0 0, .slice none 0 0]
     obtain ⟨XPB, en⟩ : ∃ X, X = u1_1.heap.size := ⟨_, rfl⟩
     rw [← en] at h11
     have lXPB : w.heap.size ≤ XPB := by rw [en]; exact hB.size
     have dXPB_hA : g ≠ XPB := by have := hA.lt; omega
     have dXPB_h7 : g + 1 ≠ XPB := by have := h7.lt; omega
     have dXPB_hR : g + 1 + 1 ≠ XPB := by have := hR.lt; omega
     have dXPB_h10 : XPA ≠ XPB := by have := h10.lt; omega
     have EUXPB := Lib.hid (And.intro eu en)
     clear eu en
     go_simp
     rw [← EUXPB.out.1, ← EUXPB.out.2]
     replace hA := hA.below b1_2 hA.lt
     replace h7 := h7.below b1_2 h7.lt
     replace hR := hR.below b1_2 hR.lt
     replace h10 := h10.below b1_2 h10.lt
     replace hB := hB.trans (b1_2.mono hB.size)
     refine hK.out _ _ ?_ (fun hHeld => ?_)
     · exact ⟨h7.cell 0, h7.cell 1, h7.cell 2, h7.cell 3, h7.cell 4, h7.cell 5, h7.cell 6, h7.cell 7, h7.cell 8, h7.cell 9, h7.cell 10, h7.cell 11⟩
     clear hK K
     try simp only [Act.put, lay1, lay2, lay3, lay4, lay5, lay6]
     refine rd1 6 rfl fun K hK => ?_
     obtain ⟨u1_3, eu, h10', kz, kb, kB⟩ := fill6 h10 (.bool s1) (.slice A1 L1 C1) (.slice D1 M1 E1) (.bool s2) (.slice A2 L2 C2) (.slice D2 M2 E2) (by simp [noU])
     have x0 : World.cell? _ ⟨XPA, 0, none⟩ = some (.bool false) := h10.cell 0
     have x1 : World.cell? _ ⟨XPA, 1, none⟩ = some (.slice none 0 0) := h10.cell 1
     have x2 : World.cell? _ ⟨XPA, 2, none⟩ = some (.slice none 0 0) := h10.cell 2
     have x3 : World.cell? _ ⟨XPA, 3, none⟩ = some (.bool false) := h10.cell 3
     have x4 : World.cell? _ ⟨XPA, 4, none⟩ = some (.slice none 0 0) := h10.cell 4
     have x5 : World.cell? _ ⟨XPA, 5, none⟩ = some (.slice none 0 0) := h10.cell 5
     have xf := h10.frozen
     go_simp
     rw [← eu]
     replace hA := kb _ _ _ hA (by omega)
     replace h7 := kb _ _ _ h7 (by omega)
     replace hR := kb _ _ _ hR (by omega)
     replace h11 := kb _ _ _ h11 (by omega)
     replace hB := kB _ _ (by omega) hB
     replace h10 := h10'
     clear h10' kz kb kB eu xf x0 x1 x2 x3 x4 x5
     refine hK.out _ _ ?_ (fun hHeld => ?_)
     · exact ⟨h7.cell 0, h7.cell 1, h7.cell 2, h7.cell 3, h7.cell 4, h7.cell 5, h7.cell 6, h7.cell 7, h7.cell 8, h7.cell 9, h7.cell 10, h7.cell 11⟩
     clear hK K
     try simp only [Act.put, lay1, lay2, lay3, lay4, lay5, lay6]
     refine rd1 7 rfl fun K hK => ?_
     obtain ⟨u1_4, eu, h11', kz, kb, kB⟩ := fill6 h11 (.bool s3) (.slice A3 L3 C3) (.slice D3 M3 E3) (.bool s4) (.slice A4 L4 C4) (.slice D4 M4 E4) (by simp [noU])
     have x0 : World.cell? _ ⟨XPB, 0, none⟩ = some (.bool false) := h11.cell 0
     have x1 : World.cell? _ ⟨XPB, 1, none⟩ = some (.slice none 0 0) := h11.cell 1
     have x2 : World.cell? _ ⟨XPB, 2, none⟩ = some (.slice none 0 0) := h11.cell 2
     have x3 : World.cell? _ ⟨XPB, 3, none⟩ = some (.bool false) := h11.cell 3
     have x4 : World.cell? _ ⟨XPB, 4, none⟩ = some (.slice none 0 0) := h11.cell 4
     have x5 : World.cell? _ ⟨XPB, 5, none⟩ = some (.slice none 0 0) := h11.cell 5
     have xf := h11.frozen
     go_simp
     rw [← eu]
     replace hA := kb _ _ _ hA (by omega)
     replace h7 := kb _ _ _ h7 (by omega)
     replace hR := kb _ _ _ hR (by omega)
     replace h10 := kb _ _ _ h10 (by omega)
     replace hB := kB _ _ (by omega) hB
     replace h11 := h11'
     clear h11' kz kb kB eu xf x0 x1 x2 x3 x4 x5
     refine hK.out _ _ ?_ (fun hHeld => ?_)
     · exact ⟨h7.cell 0, h7.cell 1, h7.cell 2, h7.cell 3, h7.cell 4, h7.cell 5, h7.cell 6, h7.cell 7, h7.cell 8, h7.cell 9, h7.cell 10, h7.cell 11⟩
     clear hK K
     try simp only [Act.put, lay1, lay2, lay3, lay4, lay5, lay6]
     try dsimp only
     try simp only [Act.put, lay1, lay2, lay3, lay4, lay5, lay6]
     refine wpAnyH_done (by kernel_rfl) ?_ _
     refine NoPanic.normal ?_
     go_wp2_with fail
     go_meet
     exact ⟨XPA, XPB, rfl, rfl, hA, hR, h10, h11, hB, lXPA, lXPB, (by assumption), (by assumption), (by assumption), (by assumption), (by first | assumption | exact Ne.symm (by assumption))⟩
   · obtain ⟨u1_5, eu, h11, b1_5⟩ := box1 wd1_1 46 #[.bool false, .slice none 0 0, .slice none 0 0, .bool false, .slice none 0 0, .slice none 0 0]
     obtain ⟨XPB, en⟩ : ∃ X, X = wd1_1.heap.size := ⟨_, rfl⟩
     rw [← en] at h11
     have lXPB : w.heap.size ≤ XPB := by rw [en]; exact hB.size
     have dXPB_hA : g ≠ XPB := by have := hA.lt; omega
     have dXPB_h7 : g + 1 ≠ XPB := by have := h7.lt; omega
     have dXPB_hR : g + 1 + 1 ≠ XPB := by have := hR.lt; omega
     have EUXPB := Lib.hid (And.intro eu en)
     clear eu en
     go_simp
     rw [← EUXPB.out.1, ← EUXPB.out.2]
     replace hA := hA.below b1_5 hA.lt
     replace h7 := h7.below b1_5 h7.lt
     replace hR := hR.below b1_5 hR.lt
     replace hB := hB.trans (b1_5.mono hB.size)
     refine hK.out _ _ ?_ (fun hHeld => ?_)
     · exact ⟨h7.cell 0, h7.cell 1, h7.cell 2, h7.cell 3, h7.cell 4, h7.cell 5, h7.cell 6, h7.cell 7, h7.cell 8, h7.cell 9, h7.cell 10, h7.cell 11⟩
     clear hK K
     try simp only [Act.put, lay1, lay2, lay3, lay4, lay5, lay6]
     refine rd1 4 rfl fun K hK => ?_
     obtain ⟨u1_6, eu, h10, b1_6⟩ := box1 u1_5 46 #[.bool false, .slice none 0 0, .slice none 0 0, .bool false, .slice none 0 0, .slice none 0 0]
     obtain ⟨XPA, en⟩ : ∃ X, X = u1_5.heap.size := ⟨_, rfl⟩
     rw [← en] at h10
     have lXPA : w.heap.size ≤ XPA := by rw [en]; exact hB.size
     have dXPA_hA : g ≠ XPA := by have := hA.lt; omega
     have dXPA_h7 : g + 1 ≠ XPA := by have := h7.lt; omega
     have dXPA_hR : g + 1 + 1 ≠ XPA := by have := hR.lt; omega
     have dXPA_h11 : XPB ≠ XPA := by have := h11.lt; omega
     have EUXPA := Lib.hid (And.intro eu en)
     clear eu en
     go_simp
     rw [← EUXPA.out.1, ← EUXPA.out.2]
     replace hA := hA.below b1_6 hA.lt
     replace h7 := h7.below b1_6 h7.lt
     replace hR := hR.below b1_6 hR.lt
     replace h11 := h11.below b1_6 h11.lt
     replace hB := hB.trans (b1_6.mono hB.size)
     refine hK.out _ _ ?_ (fun hHeld => ?_)
     · exact ⟨h7.cell 0, h7.cell 1, h7.cell 2, h7.cell 3, h7.cell 4, h7.cell 5, h7.cell 6, h7.cell 7, h7.cell 8, h7.cell 9, h7.cell 10, h7.cell 11⟩
     clear hK K
     try simp only [Act.put, lay1, lay2, lay3, lay4, lay5, lay6]
     refine rd1 6 rfl fun K hK => ?_
     obtain ⟨u1_7, eu, h10', kz, kb, kB⟩ := fill6 h10 (.bool s1) (.slice A1 L1 C1) (.slice D1 M1 E1) (.bool s2) (.slice A2 L2 C2) (.slice D2 M2 E2) (by simp [noU])
     have x0 : World.cell? _ ⟨XPA, 0, none⟩ = some (.bool false) := h10.cell 0
     have x1 : World.cell? _ ⟨XPA, 1, none⟩ = some (.slice none 0 0) := h10.cell 1
     have x2 : World.cell? _ ⟨XPA, 2, none⟩ = some (.slice none 0 0) := h10.cell 2
     have x3 : World.cell? _ ⟨XPA, 3, none⟩ = some (.bool false) := h10.cell 3
     have x4 : World.cell? _ ⟨XPA, 4, none⟩ = some (.slice none 0 0) := h10.cell 4
     have x5 : World.cell? _ ⟨XPA, 5, none⟩ = some (.slice none 0 0) := h10.cell 5
     have xf := h10.frozen
     go_simp
     rw [← eu]
     replace hA := kb _ _ _ hA (by omega)
     replace h7 := kb _ _ _ h7 (by omega)
     replace hR := kb _ _ _ hR (by omega)
     replace h11 := kb _ _ _ h11 (by omega)
     replace hB := kB _ _ (by omega) hB
     replace h10 := h10'
     clear h10' kz kb kB eu xf x0 x1 x2 x3 x4 x5
     refine hK.out _ _ ?_ (fun hHeld => ?_)
     · exact ⟨h7.cell 0, h7.cell 1, h7.cell 2, h7.cell 3, h7.cell 4, h7.cell 5, h7.cell 6, h7.cell 7, h7.cell 8, h7.cell 9, h7.cell 10, h7.cell 11⟩
     clear hK K
     try simp only [Act.put, lay1, lay2, lay3, lay4, lay5, lay6]
     refine rd1 7 rfl fun K hK => ?_
     obtain ⟨u1_8, eu, h11', kz, kb, kB⟩ := fill6 h11 (.bool s3) (.slice A3 L3 C3) (.slice D3 M3 E3) (.bool s4) (.slice A4 L4 C4) (.slice D4 M4 E4) (by simp [noU])
     have x0 : World.cell? _ ⟨XPB, 0, none⟩ = some (.bool false) := h11.cell 0
     have x1 : World.cell? _ ⟨XPB, 1, none⟩ = some (.slice none 0 0) := h11.cell 1
     have x2 : World.cell? _ ⟨XPB, 2, none⟩ = some (.slice none 0 0) := h11.cell 2
     have x3 : World.cell? _ ⟨XPB, 3, none⟩ = some (.bool false) := h11.cell 3
     have x4 : World.cell? _ ⟨XPB, 4, none⟩ = some (.slice none 0 0) := h11.cell 4
     have x5 : World.cell? _ ⟨XPB, 5, none⟩ = some (.slice none 0 0) := h11.cell 5
     have xf := h11.frozen
     go_simp
     rw [← eu]
     replace hA := kb _ _ _ hA (by omega)
     replace h7 := kb _ _ _ h7 (by omega)
     replace hR := kb _ _ _ hR (by omega)
     replace h10 := kb _ _ _ h10 (by omega)
     replace hB := kB _ _ (by omega) hB
     replace h11 := h11'
     clear h11' kz kb kB eu xf x0 x1 x2 x3 x4 x5
     refine hK.out _ _ ?_ (fun hHeld => ?_)
     · exact ⟨h7.cell 0, h7.cell 1, h7.cell 2, h7.cell 3, h7.cell 4, h7.cell 5, h7.cell 6, h7.cell 7, h7.cell 8, h7.cell 9, h7.cell 10, h7.cell 11⟩
     clear hK K
     try simp only [Act.put, lay1, lay2, lay3, lay4, lay5, lay6]
     try dsimp only
     try simp only [Act.put, lay1, lay2, lay3, lay4, lay5, lay6]
     refine wpAnyH_done (by kernel_rfl) ?_ _
     refine NoPanic.normal ?_
     go_wp2_with fail
     go_meet
     exact ⟨XPA, XPB, rfl, rfl, hA, hR, h10, h11, hB, lXPA, lXPB, (by assumption), (by assumption), (by assumption), (by assumption), (by first | assumption | exact Ne.symm (by assumption))⟩
 obtain ⟨XPA, XPB, rfl, rfl, hA, hR, h10, h11, hB, lXPA, lXPB, dXPA_hA, dXPA_hR, dXPB_hA, dXPB_hR, nXPA_XPB⟩ := hcut
 obtain ⟨c24, c25, c26, c27, c28, c29⟩ := hA.q6
 obtain ⟨c30, c31, c32, c33, c34, c35⟩ := hR.q6
 obtain ⟨c36, c37, c38, c39, c40, c41⟩ := h10.q6
 obtain ⟨c42, c43, c44, c45, c46, c47⟩ := h11.q6
 go_wp2_with fail
 refine (hRi _).mono ?_
 rintro e w23 ⟨rfl, b23⟩
 replace hA := hA.below b23 hA.lt
 replace hR := hR.below b23 hR.lt
 replace h10 := h10.below b23 h10.lt
 replace h11 := h11.below b23 h11.lt
 replace hB := hB.trans (b23.mono hB.size)
 clear c24 c25 c26 c27 c28 c29 c30 c31 c32 c33 c34 c35 c36 c37 c38 c39 c40 c41 c42 c43 c44 c45 c46 c47
 obtain ⟨c48, c49, c50, c51, c52, c53⟩ := hA.q6
 obtain ⟨c54, c55, c56, c57, c58, c59⟩ := hR.q6
 obtain ⟨c60, c61, c62, c63, c64, c65⟩ := h10.q6
 obtain ⟨c66, c67, c68, c69, c70, c71⟩ := h11.q6
 rcases hbad.out with rfl | ⟨rfl, t1⟩ | ⟨rfl, t1, t2⟩ | ⟨rfl, t1, t2, rfl⟩
 all_goals
   obtain ⟨p1, p2, p3⟩ := put6 hR (.bool false) (.slice none 0 0) (.slice none 0 0) (.bool false) (.slice none 0 0) (.slice none 0 0) (by simp [noU]) hB (by omega)
   have rc0 : World.cell? _ ⟨g + 1 + 1, 0, none⟩ = some (.bool false) := hR.cell 0
   have rf0 := hR.frozen 0
   have rc1 : World.cell? _ ⟨g + 1 + 1, 1, none⟩ = some (.slice none 0 0) := hR.cell 1
   have rf1 := hR.frozen 1
   have rc2 : World.cell? _ ⟨g + 1 + 1, 2, none⟩ = some (.slice none 0 0) := hR.cell 2
   have rf2 := hR.frozen 2
   have rc3 : World.cell? _ ⟨g + 1 + 1, 3, none⟩ = some (.bool false) := hR.cell 3
   have rf3 := hR.frozen 3
   have rc4 : World.cell? _ ⟨g + 1 + 1, 4, none⟩ = some (.slice none 0 0) := hR.cell 4
   have rf4 := hR.frozen 4
   have rc5 : World.cell? _ ⟨g + 1 + 1, 5, none⟩ = some (.slice none 0 0) := hR.cell 5
   have rf5 := hR.frozen 5
   have P := Lib.hid (And.intro trivial (And.intro p3 p1.cells6))
   clear p1 p2 p3
   go_wp2_with fail
   obtain ⟨P1, P2, P3, P4, P5, P6, P7, P8⟩ := P.out
   exact bodyPost_ret (v := .tuple #[.agg #[.bool false, .slice none 0 0, .slice none 0 0, .bool false, .slice none 0 0, .slice none 0 0], .int .i64 1]) (by simp [results, Tryz.results32, go_sem, P3, P4, P5, P6, P7, P8]) rfl ⟨rfl, P2⟩
end Go.Proofs.YtdnjdglekifhpaaGreat
namespace Go.Proofs.YtdnjdglekifhpaaGreat
open Go.RowKit
def updBad (lr b1 b2 eps wd f t : Int) (hi : Rat) : Bool := !rightA lr b1 b2 eps wd f || (decide (t < 1) || (decide (30 < t) || decide (hi.num < 0)))
theorem pupd_res (lr b1 b2 eps wd : Int) (apart : Bool) (f t : Int) (ra rb rc rd : Rat) (w : World) (i1 : In64 lr) (i2 : In64 b1) (i3 : In64 b2) (i4 : In64 eps) (A1 D1 A2 D2 A3 D3 A4 D4 : Option Addr) (L1 C1 M1 E1 L2 C2 M2 E2 L3 C3 M3 E3 L4 C4 M4 E4 : Nat) (s1 s2 s3 s4 : Bool)
   (h1 : IsS w (.agg #[.bool s1, .slice A1 L1 C1, .slice D1 M1 E1, .bool s2, .slice A2 L2 C2, .slice D2 M2 E2]) ra rb) (h2 : IsS w (.agg #[.bool s3, .slice A3 L3 C3, .slice D3 M3 E3, .bool s4, .slice A4 L4 C4, .slice D4 M4 E4]) rc rd) (b0 : BQ ra 10) (b0' : BQ rb 10) (b2' : BQ rc 10) (b3 : BQ rd 10) :
   Calls Tryz.prog 32 #[.agg #[.int .i64 lr, .int .i64 b1, .int .i64 b2, .int .i64 eps, .int .i64 wd, .bool apart], .int .i64 f, .int .i64 t, .agg #[.bool s1, .slice A1 L1 C1, .slice D1 M1 E1, .bool s2, .slice A2 L2 C2, .slice D2 M2 E2, .bool s3, .slice A3 L3 C3, .slice D3 M3 E3, .bool s4, .slice A4 L4 C4, .slice D4 M4 E4]] w fun e w' => ∃ v', e = .returned (.tuple #[v', .int .i64 (errOf (updBad lr b1 b2 eps wd f t rd))]) ∧ ResS (updBad lr b1 b2 eps wd f t rd) (updLo (1 - powQ (mkRat b1 (2 ^ f.toNat)) t.toNat) (1 - powQ (mkRat b2 (2 ^ f.toNat)) t.toNat) (mkRat eps (2 ^ f.toNat)) (mkRat lr (2 ^ f.toNat)) ra rb (if rc.num < 0 then 0 else rc) rd) (updHi (1 - powQ (mkRat b1 (2 ^ f.toNat)) t.toNat) (1 - powQ (mkRat b2 (2 ^ f.toNat)) t.toNat) (mkRat eps (2 ^ f.toNat)) (mkRat lr (2 ^ f.toNat)) ra rb (if rc.num < 0 then 0 else rc) rd) w' v' ∧ Below w.heap.size w w' := by
 have hbad : ∀ (_ : (updBad lr b1 b2 eps wd f t rd) = true) (_ : Calls Tryz.prog 32 #[.agg #[.int .i64 lr, .int .i64 b1, .int .i64 b2, .int .i64 eps, .int .i64 wd, .bool apart], .int .i64 f, .int .i64 t, .agg #[.bool s1, .slice A1 L1 C1, .slice D1 M1 E1, .bool s2, .slice A2 L2 C2, .slice D2 M2 E2, .bool s3, .slice A3 L3 C3, .slice D3 M3 E3, .bool s4, .slice A4 L4 C4, .slice D4 M4 E4]] w fun e w' => e = .returned (.tuple #[.agg #[.bool false, .slice none 0 0, .slice none 0 0, .bool false, .slice none 0 0, .slice none 0 0], .int .i64 1]) ∧ Below w.heap.size w w'), Calls Tryz.prog 32 #[.agg #[.int .i64 lr, .int .i64 b1, .int .i64 b2, .int .i64 eps, .int .i64 wd, .bool apart], .int .i64 f, .int .i64 t, .agg #[.bool s1, .slice A1 L1 C1, .slice D1 M1 E1, .bool s2, .slice A2 L2 C2, .slice D2 M2 E2, .bool s3, .slice A3 L3 C3, .slice D3 M3 E3, .bool s4, .slice A4 L4 C4, .slice D4 M4 E4]] w fun e w' => ∃ v', e = .returned (.tuple #[v', .int .i64 (errOf (updBad lr b1 b2 eps wd f t rd))]) ∧ ResS (updBad lr b1 b2 eps wd f t rd) (updLo (1 - powQ (mkRat b1 (2 ^ f.toNat)) t.toNat) (1 - powQ (mkRat b2 (2 ^ f.toNat)) t.toNat) (mkRat eps (2 ^ f.toNat)) (mkRat lr (2 ^ f.toNat)) ra rb (if rc.num < 0 then 0 else rc) rd) (updHi (1 - powQ (mkRat b1 (2 ^ f.toNat)) t.toNat) (1 - powQ (mkRat b2 (2 ^ f.toNat)) t.toNat) (mkRat eps (2 ^ f.toNat)) (mkRat lr (2 ^ f.toNat)) ra rb (if rc.num < 0 then 0 else rc) rd) w' v' ∧ Below w.heap.size w w' := by
   intro hb hc
   rw [hb]
   refine hc.mono ?_
   rintro e w' ⟨rfl, b⟩
   exact ⟨_, rfl, by unfold ResS; rw [if_pos rfl], b⟩
 cases hr : rightA lr b1 b2 eps wd f
 · exact hbad (by unfold updBad; rw [hr]; rfl) (pupdno_any lr b1 b2 eps wd apart f t w A1 D1 A2 D2 A3 D3 A4 D4 L1 C1 M1 E1 L2 C2 M2 E2 L3 C3 M3 E3 L4 C4 M4 E4 s1 s2 s3 s4 (.inl hr))
 cases t1 : decide (t < 1)
 case true => exact hbad (by unfold updBad; rw [hr, t1]; rfl) (pupdno_any lr b1 b2 eps wd apart f t w A1 D1 A2 D2 A3 D3 A4 D4 L1 C1 M1 E1 L2 C2 M2 E2 L3 C3 M3 E3 L4 C4 M4 E4 s1 s2 s3 s4 (.inr (.inl ⟨hr, t1⟩)))
 cases t2 : decide (30 < t)
 case true => exact hbad (by unfold updBad; rw [hr, t1, t2]; rfl) (pupdno_any lr b1 b2 eps wd apart f t w A1 D1 A2 D2 A3 D3 A4 D4 L1 C1 M1 E1 L2 C2 M2 E2 L3 C3 M3 E3 L4 C4 M4 E4 s1 s2 s3 s4 (.inr (.inr (.inl ⟨hr, t1, t2⟩))))
 have e4 : s4 = decide (rd.num < 0) := by
   obtain ⟨_, _, _, _, _, _, e, _, q4⟩ := id h2
   cases e
   exact q4.parts.1
 by_cases n1 : rd.num < 0
 · rw [decide_eq_true n1] at e4
   subst e4
   exact hbad (by unfold updBad; rw [hr, t1, t2, decide_eq_true n1]; rfl) (pupdno_any lr b1 b2 eps wd apart f t w A1 D1 A2 D2 A3 D3 A4 D4 L1 C1 M1 E1 L2 C2 M2 E2 L3 C3 M3 E3 L4 C4 M4 E4 s1 s2 s3 true (.inr (.inr (.inr ⟨hr, t1, t2, rfl⟩))))
 have hz : (updBad lr b1 b2 eps wd f t rd) = false := by unfold updBad; rw [hr, t1, t2, decide_eq_false n1]; rfl
 rw [hz]
 have f0 : 0 ≤ f := by unfold rightA at hr; have := of_decide_eq_true hr; omega
 have u1 := of_decide_eq_false t1
 have u2 := of_decide_eq_false t2
 obtain ⟨k, rfl⟩ : ∃ k : Nat, f = (k : Int) := ⟨f.toNat, by omega⟩
 obtain ⟨n, rfl⟩ : ∃ n : Nat, t = (n : Int) := ⟨t.toNat, by omega⟩
 rw [Int.toNat_natCast, Int.toNat_natCast]
 refine (pupd_any lr b1 b2 eps wd apart k n _ _ ra rb rc rd w hr i1 i2 i3 i4 (by omega) (by omega) h1 h2 b0 b0' b2' b3 n1 A1 D1 A2 D2 A3 D3 A4 D4 L1 C1 M1 E1 L2 C2 M2 E2 L3 C3 M3 E3 L4 C4 M4 E4 s1 s2 s3 s4 rfl rfl).mono ?_
 rintro e w' ⟨v', rfl, q, b⟩
 exact ⟨v', rfl, by unfold ResS; rw [if_neg (by simp)]; exact q, b⟩
end Go.Proofs.YtdnjdglekifhpaaGreat
namespace Go.Proofs.YtdnjdglekifhpaaGreat
theorem cmpQ_pos_iff (a b : Rat) : 0 < cmpQ a b ↔ b < a := by
 rw [← Rat.not_le, ← cmpQ_le_iff]
 omega
theorem mn4 (x y z t : Rat) : mnTo [x, y, z, t] 3 = (if t < (if z < (if y < x then y else x) then z else (if y < x then y else x)) then t else (if z < (if y < x then y else x) then z else (if y < x then y else x))) := by
 have q0 : qnt [x, y, z, t] 0 = x := rfl
 have q1 : qnt [x, y, z, t] (0 + 1) = y := rfl
 have q2 : qnt [x, y, z, t] (1 + 1) = z := rfl
 have q3 : qnt [x, y, z, t] (2 + 1) = t := rfl
 simp only [mnTo, q0, q1, q2, q3, cmpQ_lt_iff]
theorem mx4 (x y z t : Rat) : mxTo [x, y, z, t] 3 = (if (if (if x < y then y else x) < z then z else (if x < y then y else x)) < t then t else (if (if x < y then y else x) < z then z else (if x < y then y else x))) := by
 have q0 : qnt [x, y, z, t] 0 = x := rfl
 have q1 : qnt [x, y, z, t] (0 + 1) = y := rfl
 have q2 : qnt [x, y, z, t] (1 + 1) = z := rfl
 have q3 : qnt [x, y, z, t] (2 + 1) = t := rfl
 simp only [mxTo, q0, q1, q2, q3, cmpQ_pos_iff]
theorem mn4_le (x y z t : Rat) : mnTo [x, y, z, t] 3 ≤ x ∧ mnTo [x, y, z, t] 3 ≤ y ∧ mnTo [x, y, z, t] 3 ≤ z ∧ mnTo [x, y, z, t] 3 ≤ t := by
 rw [mn4]; grind
theorem mx4_ge (x y z t : Rat) : x ≤ mxTo [x, y, z, t] 3 ∧ y ≤ mxTo [x, y, z, t] 3 ∧ z ≤ mxTo [x, y, z, t] 3 ∧ t ≤ mxTo [x, y, z, t] 3 := by
 rw [mx4]; grind
theorem lin_ge {a b x z m : Rat} (h1 : a ≤ x) (h2 : x ≤ b) (ha : m ≤ a * z) (hb : m ≤ b * z) : m ≤ x * z := by
 by_cases hz : 0 ≤ z
 · exact Rat.le_trans ha (Rat.mul_le_mul_of_nonneg_right h1 hz)
 · have h3 : 0 ≤ -z := by grind
   have h4 := Rat.mul_le_mul_of_nonneg_right h2 h3
   have h5 : x * -z = -(x * z) := by grind
   have h6 : b * -z = -(b * z) := by grind
   rw [h5, h6] at h4
   generalize x * z = p at *
   generalize b * z = q at *
   grind
theorem lin_le {a b x z m : Rat} (h1 : a ≤ x) (h2 : x ≤ b) (ha : a * z ≤ m) (hb : b * z ≤ m) : x * z ≤ m := by
 have := lin_ge (z := -z) (m := -m) h1 h2 (by rw [show a * -z = -(a * z) by grind]; exact Rat.neg_le_neg ha) (by rw [show b * -z = -(b * z) by grind]; exact Rat.neg_le_neg hb)
 rw [show x * -z = -(x * z) by grind] at this
 generalize x * z = p at *
 grind
theorem mul_in {a b c d x z : Rat} (h1 : a ≤ x) (h2 : x ≤ b) (h3 : c ≤ z) (h4 : z ≤ d) : mulLo a b c d ≤ x * z ∧ x * z ≤ mulHi a b c d := by
 unfold mulLo mulHi
 obtain ⟨l1, l2, l3, l4⟩ := mn4_le (a * c) (a * d) (b * c) (b * d)
 obtain ⟨g1, g2, g3, g4⟩ := mx4_ge (a * c) (a * d) (b * c) (b * d)
 generalize mnTo [a * c, a * d, b * c, b * d] 3 = m at *
 generalize mxTo [a * c, a * d, b * c, b * d] 3 = M at *
 constructor
 · refine lin_ge h1 h2 ?_ ?_
   · rw [Rat.mul_comm]; refine lin_ge h3 h4 ?_ ?_ <;> rw [Rat.mul_comm] <;> assumption
   · rw [Rat.mul_comm]; refine lin_ge h3 h4 ?_ ?_ <;> rw [Rat.mul_comm] <;> assumption
 · refine lin_le h1 h2 ?_ ?_
   · rw [Rat.mul_comm]; refine lin_le h3 h4 ?_ ?_ <;> rw [Rat.mul_comm] <;> assumption
   · rw [Rat.mul_comm]; refine lin_le h3 h4 ?_ ?_ <;> rw [Rat.mul_comm] <;> assumption
theorem mulIn {a b c d a' b' c' d' : Rat} (h1 : a ≤ a') (h2 : a' ≤ b') (h3 : b' ≤ b) (h4 : c ≤ c') (h5 : c' ≤ d') (h6 : d' ≤ d) :
   mulLo a b c d ≤ mulLo a' b' c' d' ∧ mulHi a' b' c' d' ≤ mulHi a b c d := by
 have k1 := mul_in (x := a') (z := c') h1 (Rat.le_trans h2 h3) h4 (Rat.le_trans h5 h6)
 have k2 := mul_in (x := a') (z := d') h1 (Rat.le_trans h2 h3) (Rat.le_trans h4 h5) h6
 have k3 := mul_in (x := b') (z := c') (Rat.le_trans h1 h2) h3 h4 (Rat.le_trans h5 h6)
 have k4 := mul_in (x := b') (z := d') (Rat.le_trans h1 h2) h3 (Rat.le_trans h4 h5) h6
 exact ⟨(four_all (P := fun q => mulLo a b c d ≤ q) k1.1 k2.1 k3.1 k4.1).1, (four_all (P := fun q => q ≤ mulHi a b c d) k1.2 k2.2 k3.2 k4.2).2⟩
theorem mul_lo_hi (a b c d : Rat) : mulLo a b c d ≤ mulHi a b c d := Rat.le_trans (mn4_le _ _ _ _).1 (mx4_ge _ _ _ _).1
theorem div_lo_hi (a b c d : Rat) : divLo a b c d ≤ divHi a b c d := by
 unfold divLo divHi quo4
 exact Rat.le_trans (mn4_le _ _ _ _).1 (mx4_ge _ _ _ _).1
theorem le_divQ {x y m : Rat} (hy : 0 < y) : m ≤ divQ x y ↔ y * m ≤ x := by
 rw [divQ_eq x y hy]
 have e : x / y * y = x := Rat.div_mul_cancel (by intro e; rw [e] at hy; exact absurd hy (by decide))
 generalize x / y = q at *
 constructor
 · intro h
   have := Rat.mul_le_mul_of_nonneg_left h (Rat.le_of_lt hy)
   rw [Rat.mul_comm y q, e] at this
   exact this
 · intro h
   rw [← e, Rat.mul_comm y m] at h
   exact Rat.le_of_mul_le_mul_right h hy
theorem divQ_le {x y m : Rat} (hy : 0 < y) : divQ x y ≤ m ↔ x ≤ y * m := by
 rw [divQ_eq x y hy]
 have e : x / y * y = x := Rat.div_mul_cancel (by intro e; rw [e] at hy; exact absurd hy (by decide))
 generalize x / y = q at *
 constructor
 · intro h
   have := Rat.mul_le_mul_of_nonneg_left h (Rat.le_of_lt hy)
   rw [Rat.mul_comm y q, e] at this
   exact this
 · intro h
   rw [← e, Rat.mul_comm y m] at h
   exact Rat.le_of_mul_le_mul_right h hy
theorem div_in {a b c d x y : Rat} (hc : 0 < c) (h1 : a ≤ x) (h2 : x ≤ b) (h3 : c ≤ y) (h4 : y ≤ d) : divLo a b c d ≤ divQ x y ∧ divQ x y ≤ divHi a b c d := by
 have hy : 0 < y := by grind
 have hd : 0 < d := by grind
 unfold divLo divHi quo4
 obtain ⟨l1, l2, l3, l4⟩ := mn4_le (divQ a c) (divQ a d) (divQ b c) (divQ b d)
 obtain ⟨g1, g2, g3, g4⟩ := mx4_ge (divQ a c) (divQ a d) (divQ b c) (divQ b d)
 generalize mnTo [divQ a c, divQ a d, divQ b c, divQ b d] 3 = m at *
 generalize mxTo [divQ a c, divQ a d, divQ b c, divQ b d] 3 = M at *
 rw [le_divQ hc] at l1 l3
 rw [le_divQ hd] at l2 l4
 rw [divQ_le hc] at g1 g3
 rw [divQ_le hd] at g2 g4
 refine ⟨(le_divQ hy).2 ?_, (divQ_le hy).2 ?_⟩
 · exact lin_le h3 h4 (Rat.le_trans l1 h1) (Rat.le_trans l2 h1)
 · exact lin_ge h3 h4 (Rat.le_trans h2 g3) (Rat.le_trans h2 g4)
theorem divIn {a b c d a' b' c' d' : Rat} (hc : 0 < c) (h1 : a ≤ a') (h2 : a' ≤ b') (h3 : b' ≤ b) (h4 : c ≤ c') (h5 : c' ≤ d') (h6 : d' ≤ d) :
   divLo a b c d ≤ divLo a' b' c' d' ∧ divHi a' b' c' d' ≤ divHi a b c d := by
 have k1 := div_in (x := a') (y := c') hc h1 (Rat.le_trans h2 h3) h4 (Rat.le_trans h5 h6)
 have k2 := div_in (x := a') (y := d') hc h1 (Rat.le_trans h2 h3) (Rat.le_trans h4 h5) h6
 have k3 := div_in (x := b') (y := c') hc (Rat.le_trans h1 h2) h3 h4 (Rat.le_trans h5 h6)
 have k4 := div_in (x := b') (y := d') hc (Rat.le_trans h1 h2) h3 (Rat.le_trans h4 h5) h6
 exact ⟨(four_all (P := fun q => divLo a b c d ≤ q) k1.1 k2.1 k3.1 k4.1).1, (four_all (P := fun q => q ≤ divHi a b c d) k1.2 k2.2 k3.2 k4.2).2⟩
theorem IsRt.mono {a b r s : Nat} (h : a ≤ b) (hr : IsRt a r) (hs : IsRt b s) : r ≤ s := by
 unfold IsRt at *
 rcases Nat.lt_or_ge s r with h1 | h1
 · have := Nat.mul_le_mul h1 h1
   have e : s.succ = s + 1 := rfl
   rw [e] at this
   omega
 · exact h1
theorem rtUp_mono {a b r s : Nat} (h : a ≤ b) (hr : IsRt a r) (hs : IsRt b s) : rtUp a r ≤ rtUp b s := by
 have h1 := hr.mono h hs
 unfold rtUp
 by_cases e : r = s
 · subst e; split <;> split <;> omega
 · split <;> split <;> omega
theorem man_mono {x y : Int} (k : Nat) (h : x ≤ y) : mkRat x (2 ^ k) ≤ mkRat y (2 ^ k) := by
 refine Rat.le_of_mul_le_mul_right (c := ((2 ^ k : Nat) : Rat)) ?_ (powQ_pos k)
 rw [mkP_mul, mkP_mul, Rat.intCast_le_intCast]
 exact h
theorem flr_mono {r s : Rat} (k : Nat) (h : r ≤ s) : flr r k ≤ flr s k := by
 rw [flr_floor, flr_floor]
 have hP : (0 : Rat) ≤ ((2 ^ k : Nat) : Rat) := Rat.natCast_nonneg
 exact Rat.floor_monotone (Rat.mul_le_mul_of_nonneg_right h hP)
theorem flr_cel (r : Rat) (k : Nat) : flr r k ≤ cel r k := by
 have h1 := (cel_bounds r k).1
 have h2 := Rat.floor_le (r * ((2 ^ k : Nat) : Rat))
 rw [← flr_floor] at h2
 have := Rat.le_trans h2 h1
 rwa [Rat.intCast_le_intCast] at this
theorem flN_mono {a b : Rat} (h0 : 0 ≤ a) (h : a ≤ b) : flN a ≤ flN b := by
 have h1 := flr_mono 120 h
 have n1 : ¬ a.num < 0 := by rw [num_neg_iff, Rat.not_lt]; exact h0
 have n2 : ¬ b.num < 0 := by rw [num_neg_iff, Rat.not_lt]; exact Rat.le_trans h0 h
 rw [flr_pos a 120 n1, flr_pos b 120 n2, Int.ofNat_le] at h1
 exact h1
theorem clN_cel {b : Rat} (h0 : 0 ≤ b) : ((clN b : Nat) : Int) = cel b 120 := by
 have n1 : ¬ b.num < 0 := by rw [num_neg_iff, Rat.not_lt]; exact h0
 unfold clN cel
 by_cases e : b.num = 0
 · have e2 : b = 0 := Rat.num_eq_zero.1 e
   subst e2
   decide +kernel
 · have n2 : (-b).num < 0 := by rw [Rat.neg_num]; omega
   rw [flr_neg (-b) 120 n2, Rat.neg_num, Rat.neg_den, Int.natAbs_neg, Int.neg_neg]
   generalize b.num.natAbs * 2 ^ 120 / b.den = x
   generalize b.num.natAbs * 2 ^ 120 % b.den = y
   split <;> split <;> omega
theorem clN_mono {a b : Rat} (h0 : 0 ≤ a) (h : a ≤ b) : clN a ≤ clN b := by
 have h1 := cel_mono 120 h
 rw [← clN_cel h0, ← clN_cel (Rat.le_trans h0 h), Int.ofNat_le] at h1
 exact h1
theorem sqLo_mono {a b : Rat} (h0 : 0 ≤ a) (h : a ≤ b) : sqLo a ≤ sqLo b := by
 unfold sqLo
 exact man_mono 60 (Int.ofNat_le.2 ((rootN_is _).mono (flN_mono h0 h) (rootN_is _)))
theorem sqHi_mono {a b : Rat} (h0 : 0 ≤ a) (h : a ≤ b) : sqHi a ≤ sqHi b := by
 unfold sqHi
 exact man_mono 60 (Int.ofNat_le.2 (rtUp_mono (clN_mono h0 h) (rootN_is _) (rootN_is _)))
theorem sq_lo_hi (a : Rat) : sqLo a ≤ sqHi a := by
 unfold sqLo sqHi
 refine man_mono 60 (Int.ofNat_le.2 ?_)
 have h1 : flN a ≤ clN a := by unfold flN clN; omega
 have h2 := (rootN_is (flN a)).mono h1 (rootN_is (clN a))
 unfold rtUp
 split <;> omega
theorem upd_lo_hi (l1 l2 e r f0 f1 s0 s1 : Rat) : updLo l1 l2 e r f0 f1 s0 s1 ≤ updHi l1 l2 e r f0 f1 s0 s1 := by
 unfold updLo updHi
 exact man_mono 60 (Int.le_trans (flr_cel _ _) (cel_mono 60 (mul_lo_hi _ _ _ _)))
theorem updIn {l1 l2 e r f0 f1 s0 s1 : Rat} (hl1 : 0 < l1) (hl2 : 0 < l2) (he : 0 < e) (h1 : f0 ≤ f1) (h2 : 0 ≤ s0) (h3 : s0 ≤ s1) :
   updLo l1 l2 e r f0 f1 s0 s1 ≤ updLo l1 l2 e r f1 f1 s1 s1 ∧ updHi l1 l2 e r f1 f1 s1 s1 ≤ updHi l1 l2 e r f0 f1 s0 s1 := by
 obtain ⟨x1, x2⟩ := divIn (a := f0) (b := f1) (a' := f1) (b' := f1) hl1 h1 Rat.le_refl Rat.le_refl (Rat.le_refl (a := l1)) (Rat.le_refl (a := l1)) (Rat.le_refl (a := l1))
 obtain ⟨y1, y2⟩ := divIn (a := s0) (b := s1) (a' := s1) (b' := s1) hl2 h3 Rat.le_refl Rat.le_refl (Rat.le_refl (a := l2)) (Rat.le_refl (a := l2)) (Rat.le_refl (a := l2))
 have h4 := Rat.le_trans h2 h3
 have y0 : 0 ≤ divLo s0 s1 l2 l2 := (four_all (P := fun q => 0 ≤ q) (div_nonneg h2 hl2) (div_nonneg h2 hl2) (div_nonneg h4 hl2) (div_nonneg h4 hl2)).1
 have y3 := div_lo_hi s1 s1 l2 l2
 have a1 := sqLo_mono y0 y1
 have a2 := sqHi_mono (Rat.le_trans y0 (Rat.le_trans y1 y3)) y2
 have a3 := Rat.le_trans (sqLo_mono (Rat.le_trans y0 y1) y3) (sq_lo_hi (divHi s1 s1 l2 l2))
 have a0 : 0 < sqLo (divLo s0 s1 l2 l2) + e := add_posQ (sqLo_nonneg _) he
 obtain ⟨u1, u2⟩ := divIn (a := divLo f0 f1 l1 l1) (b := divHi f0 f1 l1 l1) (a' := divLo f1 f1 l1 l1) (b' := divHi f1 f1 l1 l1) a0 x1 (div_lo_hi _ _ _ _) x2
   (show sqLo (divLo s0 s1 l2 l2) + e ≤ sqLo (divLo s1 s1 l2 l2) + e by grind) (show sqLo (divLo s1 s1 l2 l2) + e ≤ sqHi (divHi s1 s1 l2 l2) + e by grind) (show sqHi (divHi s1 s1 l2 l2) + e ≤ sqHi (divHi s0 s1 l2 l2) + e by grind)
 have u3 := div_lo_hi (divLo f1 f1 l1 l1) (divHi f1 f1 l1 l1) (sqLo (divLo s1 s1 l2 l2) + e) (sqHi (divHi s1 s1 l2 l2) + e)
 obtain ⟨p1, p2⟩ := mulIn (Rat.le_refl (a := r)) (Rat.le_refl (a := r)) (Rat.le_refl (a := r)) u1 u3 u2
 unfold updLo updHi
 exact ⟨man_mono 60 (flr_mono 60 p1), man_mono 60 (cel_mono 60 p2)⟩
end Go.Proofs.YtdnjdglekifhpaaGreat
