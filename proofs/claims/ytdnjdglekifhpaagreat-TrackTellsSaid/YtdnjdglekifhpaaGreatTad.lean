/- A part of the proof of: Bounds of what is kept, a bound a step on, and a number with what is so near, are as the document says. No conditions: every input. -/
import Derived.Deep.RegionHeld3
import Derived.Deep.DrawnRows
import Derived.Test.YtdnjdglekifhpaaGreatTac
namespace Go.Proofs.YtdnjdglekifhpaaGreat
open Go.RowKit
attribute [local go_sem ↓] Go.wp_at_zero Go.wp_at_succ
theorem zcell {w : World} {v : Value} {m : Nat} (h : IsZ w v (m : Int)) : ∃ A L C, v = .agg #[.bool false, .slice A L C] ∧ IsN w (.slice A L C) m := by
 obtain ⟨nv, rfl, hn⟩ := h
 obtain ⟨A, L, C, rfl⟩ := hn.frm
 exact ⟨A, L, C, by rw [decide_eq_false (by omega)], by simpa using hn⟩
theorem toZ {w : World} {u : Value} {m : Nat} (h : IsN w u m) : IsZ w (.agg #[.bool false, u]) (m : Int) := ⟨u, by rw [decide_eq_false (by omega)], by simpa using h⟩
def Best (D : Nat → Nat) (b c : Nat) : Prop := b < c ∧ ∀ j, j < c → D b ≤ D j ∧ (j < b → D b < D j)
theorem Best.one (D : Nat → Nat) : Best D 0 1 := ⟨by omega, fun j hj => by
 have e : j = 0 := by omega
 subst e
 exact ⟨Nat.le_refl _, fun h => by omega⟩⟩
def noI2 : Value → Bool
 | .int .i64 _ => false
 | _ => true
theorem IsI.keepBlk2 {w w' : World} {R : Nat} {u : Value} {xs : List Int} {t : TypeId} {cs : Array Value} (h : IsI w u xs) (hR : Blk w R t cs) (hcs : cs.all noI2 = true) (hw : ∀ k, k ≠ R → w'.heap[k]? = w.heap[k]?) (hsz : w.heap.size ≤ w'.heap.size) : IsI w' u xs := by
 obtain ⟨A, c, rfl, h1, h2, h4⟩ := h
 refine ⟨A, c, rfl, h1, h2, h4.1, fun hn => ?_⟩
 obtain ⟨ad, rfl, hb, hc⟩ := h4.2 hn
 refine ⟨ad, rfl, by omega, fun j y hj => ?_⟩
 have hne : ad.block ≠ R := by
   intro e
   have hl := h4.1
   have h0 := hc 0 _ (is_at xs 0 (by rw [is_len] at hl; omega))
   obtain ⟨b, off, sp⟩ := ad
   dsimp only at e; subst e
   rw [Addr.add, if_pos rfl] at h0
   have hsp : sp = none := World.cell?_spot h0
   subst hsp
   rw [hR.cell] at h0
   have := Array.all_eq_true_iff_forall_mem.1 hcs _ (Array.mem_of_getElem? h0)
   simp [noI2] at this
 rw [← hc j y hj]
 exact World.cell?_of_block (by rw [block_of_add]; exact hw _ hne)
theorem IsI.put2 {w : World} {R : Nat} {u : Value} {xs : List Int} {t : TypeId} {a b : Value} (h : IsI w u xs) (hR : Blk w R t #[a, b]) (hcs : (#[a, b] : Array Value).all noI2 = true) (x y : Value) : IsI ((w.setCell ⟨R, 0, none⟩ x).setCell ⟨R, 1, none⟩ y) u xs :=
 h.keepBlk2 hR hcs (fun k hk => (Below.heap_setCell _ ⟨R, 1, none⟩ y k hk).trans (Below.heap_setCell w ⟨R, 0, none⟩ x k hk)) (by simp [World.setCell])
theorem Best.keep {D : Nat → Nat} {b c : Nat} (h : Best D b c) (hc : D b ≤ D c) : Best D b (c + 1) := ⟨by have := h.1; omega, fun j hj => by
 rcases Nat.lt_or_ge j c with h' | h'
 · exact h.2 j h'
 · obtain rfl : j = c := by omega
   exact ⟨hc, fun h2 => by have := h.1; omega⟩⟩
theorem Best.new {D : Nat → Nat} {b c : Nat} (h : Best D b c) (hc : D c < D b) : Best D c (c + 1) := ⟨by omega, fun j hj => by
 rcases Nat.lt_or_ge j c with h' | h'
 · have := (h.2 j h').1
   exact ⟨by omega, fun _ => by omega⟩
 · obtain rfl : j = c := by omega
   exact ⟨Nat.le_refl _, fun h2 => by omega⟩⟩
theorem Best.code {n : Nat} (hn : n < 4) {num d : Int} (hs : share n num d = true) {b : Nat} (h : Best (dist n num d) b 256) : b = codeOf n num d := by
 have hc := codeOf_le n num d
 have h1 := h.2 (codeOf n num d) (by omega)
 rcases Nat.lt_trichotomy b (codeOf n num d) with hlt | heq | hgt
 · have := (near_dist hn hs (o := b) (by have := h.1; omega)).1 hlt
   omega
 · exact heq
 · have := h1.2 hgt
   have := (near_dist hn hs (o := b) h.1).2 (by omega)
   omega
set_option maxRecDepth 100000 in
set_option maxHeartbeats 8000000 in
theorem rnear_ok (n : Nat) (hn : n < 4) (num d : Int) (w : World) (hi : I64 num) (hd : I64 d) (hs : share n num d = true) :
   Calls Tryz.prog 175 #[.int .i64 n, .int .i64 num, .int .i64 d] w fun e w' => e = .returned (.tuple #[.int .u8 (codeOf n num d : Nat), .int .i64 0]) ∧ Below w.heap.size w w' := by
 have hSh := fun w => rShare_any n num d hd w
 rw [hs] at hSh
 have hB0 := fun w => rbook_any n w
 rw [show bke n = 0 from if_pos (by omega), bkz_nat n hn] at hB0
 have hSr := fun w => rshare_any n hn num hi w
 have hin := bk_in hn
 obtain ⟨d0, d1⟩ := dens_pos hn
 have s1 : Sz num.natAbs 1 := Sz.u64 (by have := hi.1; have := hi.2; unfold W64; omega)
 have s2 : Sz (den (n : Nat)).natAbs 1 := Sz.u64 (by unfold W64; omega)
 have s3 : Sz (num * den (n : Nat)).natAbs 4 := by rw [Int.natAbs_mul]; exact (s1.mul s2).more (by omega)
 have hF := fun v w h y => rfar_any v (num * den (n : Nat)) (iat (bk n) y) d w h s3 (by have := hin y; unfold I64; omega) hd
 have hD : ∀ y, (num * den (n : Nat) - iat (bk n) y * d).natAbs = dist n num d y := fun _ => rfl
 simp only [hD] at hF
 have hC := fun u v w p q h1 h2 => rzcmp_any u v ((dist n num d p : Nat) : Int) ((dist n num d q : Nat) : Int) w h1 h2
 have hlen := bk_len n hn
 have KEY : Hid (∀ b, Best (dist n num d) b 256 → b = codeOf n num d) := Lib.hid fun b h => Best.code hn hs h
 have hcl : Hid (codeOf n num d ≤ 255) := Lib.hid (codeOf_le n num d)
 generalize codeOf n num d = c0 at *
 generalize dist n num d = D at *
 generalize num * den (n : Nat) = X at *
 clear hD s1 s2 s3 d0 d1 hin hs hi hd hn
 have hB := Below.refl w.heap.size w
 generalize bk n = l at *
 go_enter Tryz.func175, Tryz.ntmps175
 go_wp2_with fail
 refine (hSh _).mono ?_
 rintro e w1 ⟨rfl, rfl⟩
 go_wp2_with fail
 refine (hB0 _).mono ?_
 rintro e w2 ⟨v1, rfl, hL, b2⟩
 replace hB := hB.trans (b2.mono hB.size)
 obtain ⟨A1, C1, rfl, _, _⟩ := hL.form
 rw [hlen] at hL ⊢
 obtain ⟨ad, rfl, _⟩ := hL.at_ (k := 0) (by omega)
 go_wp2_with fail
 refine (hSr _).mono ?_
 rintro e w3 ⟨v2, rfl, h2, b3⟩
 replace hL := hL.below b3
 replace hB := hB.trans (b3.mono hB.size)
 obtain ⟨nx, rfl, hX⟩ := (id h2 : IsZ _ _ _)
 obtain ⟨Ax, Lx, Cx, rfl⟩ := hX.frm
 clear hX
 generalize decide (X < 0) = sg at *
 obtain ⟨V1, eV, hO, bV1⟩ := box1 w3 30 #[.bool sg, .slice Ax Lx Cx]
 obtain ⟨X1, eX⟩ : ∃ X, X = w3.heap.size := ⟨_, rfl⟩
 rw [← eX] at hO
 have EV1 := Lib.hid (And.intro eV eX)
 clear eV eX
 go_upto_region 6 with fail
 rw [← EV1.out.1, ← EV1.out.2]
 replace hL := hL.below bV1
 replace h2 := h2.below bV1
 replace hB := hB.trans (bV1.mono hB.size)
 obtain ⟨c4_hO_0, c4_hO_1⟩ := hO.cells2
 have hl0 : (0 : Nat) < 256 := by omega
 obtain ⟨_, e, cy⟩ := hL.at_ (k := 0) (by omega)
 cases e
 obtain ⟨cO0, cO1⟩ := hO.cells2
 have hFk := fun v w h => hF v w h 0
 generalize hy0 : iat l 0 = y at *
 rw [show Addr.add ad 0 = ad from by simp [Addr.add]] at cy
 go_cut [12] (fun s wx => ∃ Z A1 L1 C1, s = .pointer (some ⟨Z, 0, none⟩) ∧ V1.heap.size ≤ Z ∧ Blk wx Z 30 #[.bool false, .slice A1 L1 C1] ∧ IsN wx (.slice A1 L1 C1) (D 0) ∧ Below V1.heap.size V1 wx)
 case first =>
   go_region_held3 (fun w' => w'.cell? ⟨X1, 0, none⟩ = some (.bool sg) ∧ w'.cell? ⟨X1, 1, none⟩ = some (.slice Ax Lx Cx) ∧ w'.cell? ad = some (.int .i64 y))
     (first | exact ⟨cellB (by first | assumption | exact bdrew _ | exact Below.refl _ _ | exact balloc (bdrew _) _ | exact balloc (by assumption) _ | exact balloc (Below.refl _ _) _ | exact bset (bset (by assumption) (by first | assumption | exact Nat.le_refl _) _) (by first | assumption | exact Nat.le_refl _) _) cO0, cellB (by first | assumption | exact bdrew _ | exact Below.refl _ _ | exact balloc (bdrew _) _ | exact balloc (by assumption) _ | exact balloc (Below.refl _ _) _ | exact bset (bset (by assumption) (by first | assumption | exact Nat.le_refl _) _) (by first | assumption | exact Nat.le_refl _) _) cO1, cellB (by first | assumption | exact bdrew _ | exact Below.refl _ _ | exact balloc (bdrew _) _ | exact balloc (by assumption) _ | exact balloc (Below.refl _ _) _ | exact bset (bset (by assumption) (by first | assumption | exact Nat.le_refl _) _) (by first | assumption | exact Nat.le_refl _) _) cy⟩ | exact ⟨cO0, cO1, cy⟩)
     (first
       | (go_at_call 225; (with_reducible refine (hFk _ _ ?_).mono ?_); exact h2.below (by first | assumption | exact bdrew _ | exact Below.refl _ _ | exact balloc (bdrew _) _ | exact balloc (by assumption) _ | exact balloc (Below.refl _ _) _ | exact bset (bset (by assumption) (by first | assumption | exact Nat.le_refl _) _) (by first | assumption | exact Nat.le_refl _) _); rintro e w4 ⟨v4, rfl, h4, b4⟩; (first | ((first | have hXX := newX b4 V1 (by first | assumption | exact bdrew _) | have hXX := newX (undrew b4) V1 (by first | exact Below.refl _ _ | assumption)); obtain ⟨hZ, sZ⟩ := hXX; try simp only [World.size_drew] at hZ sZ) | (have hZ := hZ.below b4 hZ.lt) | skip); obtain ⟨A4, L4, C4, rfl, k4⟩ := zcell h4; have B4 := bstep (a := V1) (by first | assumption | exact bdrew _ | exact Below.refl _ _ | exact balloc (bdrew _) _ | exact balloc (by assumption) _ | exact balloc (Below.refl _ _) _ | exact bset (bset (by assumption) (by first | assumption | exact Nat.le_refl _) _) (by first | assumption | exact Nat.le_refl _) _) b4; (try (obtain ⟨z0, z1⟩ := hZ.cells2; have y0 := hZ.frozen 0; have y1 := hZ.frozen 1))))
   all_goals (go_wp2_with fail; go_meet)
   all_goals
     first
       | exact ⟨_, _, _, _, rfl, B4.size, Blk.new _ _ _, k4.below (balloc (Below.refl _ _) _), balloc B4 _⟩
       | (obtain ⟨p1, p2, p3⟩ := put2 hZ (.bool false) (.slice A4 L4 C4) (by simp [noU]) B4 (by first | assumption | exact Nat.le_refl _)
          exact ⟨_, _, _, _, rfl, (by first | assumption | exact Nat.le_refl _), p1, p2 _ _ k4, p3⟩)
 obtain ⟨Z, A2, L2, C2, rfl, sZ, hQ, hN, bz⟩ := hcut
 have hXZ : X1 < Z := Nat.lt_of_lt_of_le hO.lt sZ
 have hwZ : w.heap.size ≤ Z := Nat.le_trans hB.size sZ
 replace hL := hL.below bz
 replace h2 := h2.below bz
 replace hO := hO.below bz hO.lt
 replace hB := hB.trans (bz.mono hB.size)
 clear c4_hO_0 c4_hO_1
 obtain ⟨c5_hO_0, c5_hO_1⟩ := hO.cells2
 clear cy hFk hy0 cO0 cO1
 go_wp2
 go_loopw [10, 13] (fun b_ i_ wr => ∃ (b c : Nat) (A : Option Addr) (L C : Nat), b_ = .int .i64 b ∧ i_ = .int .i64 c ∧ c ≤ 256 ∧ Hid (Best D b c) ∧ Blk wr Z 30 #[.bool false, .slice A L C] ∧ IsN wr (.slice A L C) (D b) ∧ Blk wr X1 30 #[.bool sg, .slice Ax Lx Cx] ∧ IsI wr (.slice (some ad) 256 C1) l ∧ IsZ wr (.agg #[.bool sg, .slice Ax Lx Cx]) X ∧ Below w.heap.size w wr) (fun _ i_ _ => 256 - (intOf i_).toNat)
 case atStart => exact ⟨0, 1, _, _, _, rfl, rfl, by omega, Lib.hid (Best.one D), hQ, hN, hO, hL, h2, hB⟩
 case round =>
   clear hQ hN hO hL h2 hB
   obtain ⟨b, c, A, L, C, rfl, rfl, hc, hbest, hQ, hN, hO, hL, h2, hB⟩ := hrel
   by_cases hlt : c < 256
   · obtain ⟨_, e, cy⟩ := hL.at_ (k := c) (by omega)
     cases e
     have hFk := fun v w h => hF v w h c
     obtain ⟨cO0, cO1⟩ := hO.cells2
     have g0 : (0 : Int) ≤ (c : Int) := by omega
     have g1 : (c : Int) < 256 := by omega
     generalize hy0 : iat l c = y at *
     go_upto_region 10 with fail
     go_cut [14] (fun s wx => ∃ Z A1 L1 C1, s = .pointer (some ⟨Z, 0, none⟩) ∧ wr.heap.size ≤ Z ∧ Blk wx Z 30 #[.bool false, .slice A1 L1 C1] ∧ IsN wx (.slice A1 L1 C1) (D c) ∧ Below wr.heap.size wr wx)
     case first =>
       go_region_held3 (fun w' => w'.cell? ⟨X1, 0, none⟩ = some (.bool sg) ∧ w'.cell? ⟨X1, 1, none⟩ = some (.slice Ax Lx Cx) ∧ w'.cell? (ad.add c) = some (.int .i64 y))
         (first | exact ⟨cellB (by first | assumption | exact bdrew _ | exact Below.refl _ _ | exact balloc (bdrew _) _ | exact balloc (by assumption) _ | exact balloc (Below.refl _ _) _ | exact bset (bset (by assumption) (by first | assumption | exact Nat.le_refl _) _) (by first | assumption | exact Nat.le_refl _) _) cO0, cellB (by first | assumption | exact bdrew _ | exact Below.refl _ _ | exact balloc (bdrew _) _ | exact balloc (by assumption) _ | exact balloc (Below.refl _ _) _ | exact bset (bset (by assumption) (by first | assumption | exact Nat.le_refl _) _) (by first | assumption | exact Nat.le_refl _) _) cO1, cellB (by first | assumption | exact bdrew _ | exact Below.refl _ _ | exact balloc (bdrew _) _ | exact balloc (by assumption) _ | exact balloc (Below.refl _ _) _ | exact bset (bset (by assumption) (by first | assumption | exact Nat.le_refl _) _) (by first | assumption | exact Nat.le_refl _) _) cy⟩ | exact ⟨cO0, cO1, cy⟩)
         (first
           | (go_at_call 225; (with_reducible refine (hFk _ _ ?_).mono ?_); exact h2.below (by first | assumption | exact bdrew _ | exact Below.refl _ _ | exact balloc (bdrew _) _ | exact balloc (by assumption) _ | exact balloc (Below.refl _ _) _ | exact bset (bset (by assumption) (by first | assumption | exact Nat.le_refl _) _) (by first | assumption | exact Nat.le_refl _) _); rintro e w4 ⟨v4, rfl, h4, b4⟩; (first | ((first | have hXX := newX b4 wr (by first | assumption | exact bdrew _) | have hXX := newX (undrew b4) wr (by first | exact Below.refl _ _ | assumption)); obtain ⟨hZ, sZ⟩ := hXX; try simp only [World.size_drew] at hZ sZ) | (have hZ := hZ.below b4 hZ.lt) | skip); obtain ⟨A4, L4, C4, rfl, k4⟩ := zcell h4; have B4 := bstep (a := wr) (by first | assumption | exact bdrew _ | exact Below.refl _ _ | exact balloc (bdrew _) _ | exact balloc (by assumption) _ | exact balloc (Below.refl _ _) _ | exact bset (bset (by assumption) (by first | assumption | exact Nat.le_refl _) _) (by first | assumption | exact Nat.le_refl _) _) b4; (try (obtain ⟨z0, z1⟩ := hZ.cells2; have y0 := hZ.frozen 0; have y1 := hZ.frozen 1))))
       all_goals (go_wp2_with fail; go_meet)
       all_goals
         first
           | exact ⟨_, _, _, _, rfl, B4.size, Blk.new _ _ _, k4.below (balloc (Below.refl _ _) _), balloc B4 _⟩
           | (obtain ⟨p1, p2, p3⟩ := put2 hZ (.bool false) (.slice A4 L4 C4) (by simp [noU]) B4 (by first | assumption | exact Nat.le_refl _)
              exact ⟨_, _, _, _, rfl, (by first | assumption | exact Nat.le_refl _), p1, p2 _ _ k4, p3⟩)
     obtain ⟨Z2, A2, L2, C2, rfl, sZ2, hZ, hM, bz⟩ := hcut
     replace hL := hL.below bz
     replace h2 := h2.below bz
     replace hO := hO.below bz hO.lt
     replace hQ := hQ.below bz hQ.lt
     replace hN := hN.below bz
     replace hB := hB.trans (bz.mono hB.size)
     obtain ⟨c41_hO_0, c41_hO_1⟩ := hO.cells2
     obtain ⟨c41_hQ_0, c41_hQ_1⟩ := hQ.cells2
     clear cy hFk hy0 cO0 cO1
     clear c41_hO_0 c41_hO_1 c41_hQ_0 c41_hQ_1
     obtain ⟨c42_hO_0, c42_hO_1⟩ := hO.cells2
     obtain ⟨c42_hQ_0, c42_hQ_1⟩ := hQ.cells2
     obtain ⟨c42_hZ_0, c42_hZ_1⟩ := hZ.cells2
     go_wp2_with fail
     refine (hC _ _ _ c b (toZ hM) (toZ hN)).mono ?_
     rintro e w41 ⟨rfl, b41⟩
     replace hL := hL.below b41
     replace h2 := h2.below b41
     replace hO := hO.below b41 hO.lt
     replace hQ := hQ.below b41 hQ.lt
     replace hN := hN.below b41
     replace hZ := hZ.below b41 hZ.lt
     replace hM := hM.below b41
     replace hB := hB.trans (b41.mono hB.size)
     clear c42_hO_0 c42_hO_1 c42_hQ_0 c42_hQ_1 c42_hZ_0 c42_hZ_1
     obtain ⟨c43_hO_0, c43_hO_1⟩ := hO.cells2
     obtain ⟨c43_hQ_0, c43_hQ_1⟩ := hQ.cells2
     obtain ⟨c43_hZ_0, c43_hZ_1⟩ := hZ.cells2
     rcases (show (cmpI (D c : Int) (D b : Int) = -1 ∧ D c < D b) ∨ ((cmpI (D c : Int) (D b : Int) = 0 ∨ cmpI (D c : Int) (D b : Int) = 1) ∧ D b ≤ D c) by unfold cmpI; (repeat' split) <;> simp <;> omega) with ⟨hx, hlt2⟩ | ⟨hx, hle⟩
     · have HB2 := Lib.hid (hbest.out.new hlt2)
       rw [hx]
       have f0 := hQ.frozen 0
       have f1 := hQ.frozen 1
       obtain ⟨p1, p2, p3⟩ := put2 hQ (.bool false) (.slice A2 L2 C2) (by simp [noU]) hB hwZ
       have hO2 := (hO.far (p := ⟨Z, 0, none⟩) (show X1 ≠ Z by omega) (.bool false)).far (p := ⟨Z, 1, none⟩) (show X1 ≠ Z by omega) (.slice A2 L2 C2)
       have hL2 := hL.put2 hQ (by simp [noI2]) (.bool false) (.slice A2 L2 C2)
       have hM2 := p2 _ _ hM
       obtain ⟨nv, e22, hn22⟩ := (id h2 : IsZ _ _ _)
       have h22 := (⟨nv, e22, p2 _ _ hn22⟩ : IsZ _ (.agg #[.bool sg, .slice Ax Lx Cx]) X)
       clear e22 hn22
       have PP := Lib.hid (And.intro p1 (And.intro hM2 (And.intro hO2 (And.intro hL2 (And.intro h22 p3)))))
       clear p1 p2 p3 hO2 hL2 hM2 h22 hlt2 hx
       go_wp2
       go_roundw
       case rel =>
         obtain ⟨r1, r2, r3, r4, r5, r6⟩ := PP.out
         exact ⟨c, c + 1, _, _, _, rfl, by go_num, by omega, HB2, r1, r2, r3, r4, r5, r6⟩
       case measure => simp [intOf]; omega
     · have HB2 := Lib.hid (hbest.out.keep hle)
       generalize cmpI (D c : Int) (D b : Int) = x at *
       rcases hx with rfl | rfl
       all_goals
         go_wp2
         go_roundw
         case rel => exact ⟨b, c + 1, _, _, _, rfl, by go_num, by omega, HB2, hQ, hN, hO, hL, h2, hB⟩
         case measure => simp [intOf]; omega
   · obtain rfl : c = 256 := by omega
     obtain rfl : b = c0 := KEY.out _ hbest.out
     have hcl2 := hcl.out
     have hu : IntKind.u8.wrap (b : Int) = b := by rw [IntKind.wrap_u8]; omega
     go_wp2
     go_ret2
     exact ⟨rfl, hB⟩
end Go.Proofs.YtdnjdglekifhpaaGreat
namespace Go.Proofs.YtdnjdglekifhpaaGreat
open Go.ChangeShapes Go.WideShapes Go.ChangeAt Go.RowKit
attribute [local go_sem ↓] Go.wp_at_zero Go.wp_at_succ
set_option maxHeartbeats 1000000 in
theorem rnear_no (k num d : Int) (w : World) (hd : I64 d) (hs : share k num d = false) :
   Calls Tryz.prog 175 #[.int .i64 k, .int .i64 num, .int .i64 d] w fun e w' => e = .returned (.tuple #[.int .u8 0, .int .i64 1]) ∧ Below w.heap.size w w' := by
 have hSh := fun w => rShare_any k num d hd w
 rw [hs] at hSh
 clear hs hd
 have hB := Below.refl w.heap.size w
 go_enter Tryz.func175, Tryz.ntmps175
 go_wp2_with fail
 refine (hSh _).mono ?_
 rintro e w1 ⟨rfl, rfl⟩
 go_wp2
 go_ret2
 exact ⟨rfl, hB⟩
theorem rnear_any (k num d : Int) (w : World) (hi : I64 num) (hd : I64 d) :
   Calls Tryz.prog 175 #[.int .i64 k, .int .i64 num, .int .i64 d] w fun e w' => e = .returned (.tuple #[.int .u8 (codeOf k num d : Nat), .int .i64 (codeE k num d)]) ∧ Below w.heap.size w w' := by
 cases hs : share k num d
 · rw [show codeOf k num d = 0 from by unfold codeOf; rw [hs]; rfl, show codeE k num d = 1 from by unfold codeE; rw [hs]; rfl]
   exact rnear_no k num d w hd hs
 · obtain ⟨n, rfl, hn⟩ := kind_nat ((share_iff _ _ _).1 hs).1
   rw [codeE_of hs]
   exact rnear_ok n hn num d w hi hd hs
end Go.Proofs.YtdnjdglekifhpaaGreat
namespace Go.Proofs.YtdnjdglekifhpaaGreat
open Go.RowKit
attribute [local go_sem ↓] Go.wp_at_zero Go.wp_at_succ
set_option maxRecDepth 100000 in
set_option maxHeartbeats 16000000 in
theorem rcodes_any (v : Value) (k s : Int) (cs : List Nat) (wd : List Int) (w : World) (h : IsBk w v k s cs wd) :
   Calls Tryz.prog 117 #[v] w fun e w' => e = .returned (.bool (decide (0 ≤ s) && (if s = 0 then cs.all (fun c => decide (c = codeOf k 0 1)) else cs.contains (codeOf k 1 1) || (decide (codeE k (-1) 1 = 0) && cs.contains (codeOf k (-1) 1))))) ∧ Below w.heap.size w w' := by
 obtain ⟨a, b, rfl, ha, hb⟩ := h
 obtain ⟨Aa, Ca, rfl, _, _⟩ := id ha.form
 have hN0 := fun w => rnear_any k 0 1 w (by unfold I64; omega) (by unfold I64; omega)
 have hN1 := fun w => rnear_any k 1 1 w (by unfold I64; omega) (by unfold I64; omega)
 have hN2 := fun w => rnear_any k (-1) 1 w (by unfold I64; omega) (by unfold I64; omega)
 have ce := codeE_cases k (-1) 1
 generalize codeOf k 0 1 = c0 at *
 generalize codeOf k 1 1 = c1 at *
 generalize codeOf k (-1) 1 = c2 at *
 generalize codeE k 0 1 = e0 at *
 generalize codeE k 1 1 = e1 at *
 generalize codeE k (-1) 1 = e2 at *
 obtain ⟨P, hP⟩ : ∃ P : Nat → Bool, P = fun c => decide (c = c1) || (decide (e2 = 0) && decide (c = c2)) := ⟨_, rfl⟩
 obtain ⟨Q, hQ⟩ : ∃ Q : Nat → Bool, Q = fun c => decide (c = c0) := ⟨_, rfl⟩
 have HP : Hid (∀ x, P x = (decide (x = c1) || (decide (e2 = 0) && decide (x = c2)))) := Lib.hid (fun x => by rw [hP])
 have HQ : Hid (∀ x, Q x = decide (x = c0)) := Lib.hid (fun x => by rw [hQ])
 obtain ⟨r, hr⟩ : ∃ r, r = (decide (0 ≤ s) && (if s = 0 then cs.all (fun c => decide (c = c0)) else cs.contains c1 || (decide (e2 = 0) && cs.contains c2))) := ⟨_, rfl⟩
 rw [← hr]
 have HR : Hid (r = (decide (0 ≤ s) && (if s = 0 then cs.all Q else cs.any P))) := Lib.hid (by
   rw [hr, hQ, hP]
   congr 2
   rw [Bool.eq_iff_iff]
   simp only [List.any_eq_true, Bool.or_eq_true, Bool.and_eq_true, decide_eq_true_eq, List.contains_iff_mem]
   constructor
   · rintro (h | ⟨h, h'⟩)
     · exact ⟨_, h, .inl rfl⟩
     · exact ⟨_, h', .inr ⟨h, rfl⟩⟩
   · rintro ⟨x, hx, rfl | ⟨h, rfl⟩⟩
     · exact .inl hx
     · exact .inr ⟨h, hx⟩)
 clear hb hP hQ hr
 obtain ⟨W0, hW, hR, hB⟩ := box1 w 103 #[.int .i64 k, .int .i64 s, .slice Aa cs.length Ca, b]
 obtain ⟨g, hg⟩ : ∃ g, g = w.heap.size := ⟨_, rfl⟩
 have hW' := Lib.hid (And.intro hW hg)
 rw [← hg] at hR
 have hgw : w.heap.size ≤ g := by omega
 clear hW hg
 skip
 replace ha := ha.below hB
 obtain ⟨c1_hR_0, c1_hR_1, c1_hR_2, c1_hR_3⟩ := hR.quad
 go_enter Tryz.func117, Tryz.ntmps117
 go_wp2_with fail
 rw [← hW'.out.1, ← hW'.out.2]
 refine (hN0 _).mono ?_
 rintro e w1 ⟨rfl, b1⟩
 replace ha := ha.below b1
 replace hR := hR.below b1 hR.lt
 replace hB := hB.trans (b1.mono hB.size)
 clear c1_hR_0 c1_hR_1 c1_hR_2 c1_hR_3
 obtain ⟨c2_hR_0, c2_hR_1, c2_hR_2, c2_hR_3⟩ := hR.quad
 go_wp2_with fail
 refine (hN1 _).mono ?_
 rintro e w2 ⟨rfl, b2⟩
 replace ha := ha.below b2
 replace hR := hR.below b2 hR.lt
 replace hB := hB.trans (b2.mono hB.size)
 clear c2_hR_0 c2_hR_1 c2_hR_2 c2_hR_3
 obtain ⟨c3_hR_0, c3_hR_1, c3_hR_2, c3_hR_3⟩ := hR.quad
 go_wp2_with fail
 refine (hN2 _).mono ?_
 rintro e w3 ⟨rfl, b3⟩
 replace ha := ha.below b3
 replace hR := hR.below b3 hR.lt
 replace hB := hB.trans (b3.mono hB.size)
 clear c3_hR_0 c3_hR_1 c3_hR_2 c3_hR_3
 obtain ⟨c4_hR_0, c4_hR_1, c4_hR_2, c4_hR_3⟩ := hR.quad
 go_wp2
 go_loop [9, 10, 11] (fun so al i => ∃ j : Nat, j ≤ cs.length ∧ i = .int .i64 j ∧ so = .bool ((cs.take j).any P) ∧ al = .bool ((cs.take j).all Q)) (fun _ _ i => cs.length - (intOf i).toNat)
 case atStart => exact ⟨0, by omega, rfl, by simp, by simp⟩
 case round =>
   obtain ⟨j, hj, rfl, rfl, rfl⟩ := hrel
   by_cases hlt : j < cs.length
   · obtain ⟨ad, rfl, hc⟩ := ha.at_ hlt
     have i0 : (0 : Int) ≤ (j : Int) := by omega
     have i1 : (j : Int) < (cs.length : Int) := by omega
     have HA := Lib.hid (show (cs.take (j + 1)).any P = ((cs.take j).any P || (decide (yat cs j = c1) || (decide (e2 = 0) && decide (yat cs j = c2)))) by rw [yat_snoc_take cs j hlt, List.any_append, ← HP.out (yat cs j)]; simp)
     have HL := Lib.hid (show (cs.take (j + 1)).all Q = ((cs.take j).all Q && decide (yat cs j = c0)) by rw [yat_snoc_take cs j hlt, List.all_append, ← HQ.out (yat cs j)]; simp)
     have d0 : ((yat cs j : Int) == (c0 : Int)) = decide (yat cs j = c0) := by by_cases h : yat cs j = c0 <;> simp [h]; omega
     have d1 : ((yat cs j : Int) == (c1 : Int)) = decide (yat cs j = c1) := by by_cases h : yat cs j = c1 <;> simp [h]; omega
     have d2 : ((yat cs j : Int) == (c2 : Int)) = decide (yat cs j = c2) := by by_cases h : yat cs j = c2 <;> simp [h]; omega
     generalize (cs.take j).any P = sm at *
     generalize (cs.take j).all Q = al at *
     generalize decide (yat cs j = c0) = b0 at *
     generalize decide (yat cs j = c1) = b1 at *
     generalize decide (yat cs j = c2) = b2 at *
     generalize yat cs j = x at *
     cases sm <;> cases b1 <;> cases al <;> rcases ce with rfl | rfl
     all_goals
       go_wp2
       go_round
       case rel => exact ⟨j + 1, by omega, by go_num, by rw [HA.out]; simp, by rw [HL.out]; simp⟩
       case measure => simp [intOf]; omega
   · obtain rfl : j = cs.length := by omega
     rw [List.take_length]
     generalize cs.any P = sm at *
     generalize cs.all Q = al at *
     by_cases hs : s = 0
     · have hs1 : (s == 0) = true := by simpa using hs
       have hs2 : decide (s = 0) = true := by simpa using hs
       have HR2 := Lib.hid (show r = al by rw [HR.out, if_pos hs, hs]; simp)
       clear hs
       go_wp2
       go_ret
       exact ⟨ret_bool HR2.out.symm, hB⟩
     · have hs1 : (s == 0) = false := by simpa using hs
       have hs2 : decide (s = 0) = false := by simpa using hs
       have hs3 : decide (0 < s) = decide (0 ≤ s) := by rw [decide_eq_decide]; omega
       have HR2 := Lib.hid (show r = (decide (0 ≤ s) && sm) by rw [HR.out, if_neg hs])
       clear hs
       by_cases h0 : 0 ≤ s
       · have hs4 : decide (0 < s) = true := by rw [hs3]; exact decide_eq_true h0
         have HR3 := Lib.hid (show r = sm by rw [HR2.out, decide_eq_true h0, Bool.true_and])
         clear hs3 h0
         go_wp2
         go_ret
         exact ⟨ret_bool (by rw [HR3.out]), hB⟩
       · have hs4 : decide (0 < s) = false := by rw [hs3]; exact decide_eq_false h0
         have HR3 := Lib.hid (show r = false by rw [HR2.out, decide_eq_false h0, Bool.false_and])
         clear hs3 h0
         go_wp2
         go_ret
         exact ⟨ret_bool (by rw [HR3.out]), hB⟩
set_option maxRecDepth 100000 in
set_option maxHeartbeats 4000000 in
theorem rbright_low (v : Value) (k s : Int) (cs : List Nat) (wd : List Int) (w : World) (h : IsBk w v k s cs wd) (_h1 : cs.length ≤ 281474976710656) (_h2 : wd.length ≤ 17592186044416) (hk : k < 0) :
   Calls Tryz.prog 51 #[v] w fun e w' => e = .returned (.bool false) ∧ Below w.heap.size w w' := by
 obtain ⟨a, b, rfl, ha, hb⟩ := h
 obtain ⟨Aa, Ca, rfl, _, _⟩ := id ha.form
 obtain ⟨Ab, Cb, rfl, _, _⟩ := id hb.form
 have hC := fun w h => rcodes_any (.agg #[.int .i64 k, .int .i64 s, .slice Aa cs.length Ca, .slice Ab wd.length Cb]) k s cs wd w h
 have hk1 : decide (k < 0) = true := decide_eq_true hk
 obtain ⟨W0, hW, hR, hB⟩ := box1 w 103 #[.int .i64 k, .int .i64 s, .slice Aa cs.length Ca, .slice Ab wd.length Cb]
 obtain ⟨g, hg⟩ : ∃ g, g = w.heap.size := ⟨_, rfl⟩
 have hW' := Lib.hid (And.intro hW hg)
 rw [← hg] at hR
 have hgw : w.heap.size ≤ g := by omega
 clear hW hg
 skip
 replace ha := ha.below hB
 replace hb := hb.below hB
 obtain ⟨c1_hR_0, c1_hR_1, c1_hR_2, c1_hR_3⟩ := hR.quad
 go_enter Tryz.func51, Tryz.ntmps51
 go_wp2
 rw [← hW'.out.1]
 go_ret
 exact ⟨rfl, hB⟩
set_option maxRecDepth 100000 in
set_option maxHeartbeats 4000000 in
theorem rbright_high (v : Value) (k s : Int) (cs : List Nat) (wd : List Int) (w : World) (h : IsBk w v k s cs wd) (_h1 : cs.length ≤ 281474976710656) (_h2 : wd.length ≤ 17592186044416) (hk : 4 < k) :
   Calls Tryz.prog 51 #[v] w fun e w' => e = .returned (.bool false) ∧ Below w.heap.size w w' := by
 obtain ⟨a, b, rfl, ha, hb⟩ := h
 obtain ⟨Aa, Ca, rfl, _, _⟩ := id ha.form
 obtain ⟨Ab, Cb, rfl, _, _⟩ := id hb.form
 have hC := fun w h => rcodes_any (.agg #[.int .i64 k, .int .i64 s, .slice Aa cs.length Ca, .slice Ab wd.length Cb]) k s cs wd w h
 have hk1 : decide (k < 0) = false := decide_eq_false (by omega)
 have hk2 : decide (4 < k) = true := decide_eq_true hk
 have hk3 : ¬ k < 0 := by omega
 obtain ⟨W0, hW, hR, hB⟩ := box1 w 103 #[.int .i64 k, .int .i64 s, .slice Aa cs.length Ca, .slice Ab wd.length Cb]
 obtain ⟨g, hg⟩ : ∃ g, g = w.heap.size := ⟨_, rfl⟩
 have hW' := Lib.hid (And.intro hW hg)
 rw [← hg] at hR
 have hgw : w.heap.size ≤ g := by omega
 clear hW hg
 skip
 replace ha := ha.below hB
 replace hb := hb.below hB
 obtain ⟨c1_hR_0, c1_hR_1, c1_hR_2, c1_hR_3⟩ := hR.quad
 go_enter Tryz.func51, Tryz.ntmps51
 go_wp2
 rw [← hW'.out.1]
 go_ret
 exact ⟨rfl, hB⟩
set_option maxRecDepth 100000 in
set_option maxHeartbeats 4000000 in
theorem rbright_many (v : Value) (k s : Int) (cs : List Nat) (wd : List Int) (w : World) (h : IsBk w v k s cs wd) (h1 : cs.length ≤ 281474976710656) (h2 : wd.length ≤ 17592186044416) (hk : 0 ≤ k ∧ k ≤ 4) (hf : ¬ cs.length + wd.length ≤ 4096) :
   Calls Tryz.prog 51 #[v] w fun e w' => e = .returned (.bool false) ∧ Below w.heap.size w w' := by
 obtain ⟨a, b, rfl, ha, hb⟩ := h
 obtain ⟨Aa, Ca, rfl, _, _⟩ := id ha.form
 obtain ⟨Ab, Cb, rfl, _, _⟩ := id hb.form
 have hC := fun w h => rcodes_any (.agg #[.int .i64 k, .int .i64 s, .slice Aa cs.length Ca, .slice Ab wd.length Cb]) k s cs wd w h
 have hk1 : decide (k < 0) = false := decide_eq_false (by omega)
 have hk2 : decide (4 < k) = false := decide_eq_false (by omega)
 have hk3 : ¬ k < 0 := by omega
 have hk4 : ¬ 4 < k := by omega
 have l1 : (cs.length : Int) ≤ 281474976710656 := by omega
 have l2 : (wd.length : Int) ≤ 17592186044416 := by omega
 have hl1 : decide ((4096 : Int) < (cs.length : Int) + (wd.length : Int)) = true := decide_eq_true (by omega)
 have hl2 : (4096 : Int) < (cs.length : Int) + (wd.length : Int) := by omega
 obtain ⟨W0, hW, hR, hB⟩ := box1 w 103 #[.int .i64 k, .int .i64 s, .slice Aa cs.length Ca, .slice Ab wd.length Cb]
 obtain ⟨g, hg⟩ : ∃ g, g = w.heap.size := ⟨_, rfl⟩
 have hW' := Lib.hid (And.intro hW hg)
 rw [← hg] at hR
 have hgw : w.heap.size ≤ g := by omega
 clear hW hg
 skip
 replace ha := ha.below hB
 replace hb := hb.below hB
 obtain ⟨c1_hR_0, c1_hR_1, c1_hR_2, c1_hR_3⟩ := hR.quad
 go_enter Tryz.func51, Tryz.ntmps51
 go_wp2
 rw [← hW'.out.1]
 go_ret
 exact ⟨rfl, hB⟩
set_option maxRecDepth 100000 in
set_option maxHeartbeats 4000000 in
theorem rbright_cwide (v : Value) (k s : Int) (cs : List Nat) (wd : List Int) (w : World) (h : IsBk w v k s cs wd) (h1 : cs.length ≤ 281474976710656) (h2 : wd.length ≤ 17592186044416) (hk : 0 ≤ k ∧ k ≤ 3) (hf : cs.length + wd.length ≤ 4096) (hw : wd ≠ []) :
   Calls Tryz.prog 51 #[v] w fun e w' => e = .returned (.bool false) ∧ Below w.heap.size w w' := by
 obtain ⟨a, b, rfl, ha, hb⟩ := h
 obtain ⟨Aa, Ca, rfl, _, _⟩ := id ha.form
 obtain ⟨Ab, Cb, rfl, _, _⟩ := id hb.form
 have hC := fun w h => rcodes_any (.agg #[.int .i64 k, .int .i64 s, .slice Aa cs.length Ca, .slice Ab wd.length Cb]) k s cs wd w h
 have hk1 : decide (k < 0) = false := decide_eq_false (by omega)
 have hk2 : decide (4 < k) = false := decide_eq_false (by omega)
 have hk3 : ¬ k < 0 := by omega
 have hk4 : ¬ 4 < k := by omega
 have l1 : (cs.length : Int) ≤ 281474976710656 := by omega
 have l2 : (wd.length : Int) ≤ 17592186044416 := by omega
 have hl1 : decide ((4096 : Int) < (cs.length : Int) + (wd.length : Int)) = false := decide_eq_false (by omega)
 have hl2 : ¬ (4096 : Int) < (cs.length : Int) + (wd.length : Int) := by omega
 have hk5 : (k != 4) = true := by rw [bne_iff_ne]; omega
 have hk6 : decide (k = 4) = false := decide_eq_false (by omega)
 have hw0 : wd.length ≠ 0 := fun h => hw (List.eq_nil_of_length_eq_zero h)
 have hw1 : ((wd.length : Int) == 0) = false := by rw [beq_eq_false_iff_ne]; omega
 have hw2 : decide (wd.length = 0) = false := decide_eq_false hw0
 obtain ⟨W0, hW, hR, hB⟩ := box1 w 103 #[.int .i64 k, .int .i64 s, .slice Aa cs.length Ca, .slice Ab wd.length Cb]
 obtain ⟨g, hg⟩ : ∃ g, g = w.heap.size := ⟨_, rfl⟩
 have hW' := Lib.hid (And.intro hW hg)
 rw [← hg] at hR
 have hgw : w.heap.size ≤ g := by omega
 clear hW hg
 skip
 replace ha := ha.below hB
 replace hb := hb.below hB
 obtain ⟨c1_hR_0, c1_hR_1, c1_hR_2, c1_hR_3⟩ := hR.quad
 go_enter Tryz.func51, Tryz.ntmps51
 go_wp2
 rw [← hW'.out.1]
 go_ret
 exact ⟨rfl, hB⟩
set_option maxRecDepth 100000 in
set_option maxHeartbeats 4000000 in
theorem rbright_coded (v : Value) (k s : Int) (cs : List Nat) (wd : List Int) (w : World) (h : IsBk w v k s cs wd) (h1 : cs.length ≤ 281474976710656) (_h2 : wd.length ≤ 17592186044416) (hk : 0 ≤ k ∧ k ≤ 3) (hf : cs.length ≤ 4096) (hw : wd = []) :
   Calls Tryz.prog 51 #[v] w fun e w' => e = .returned (.bool (decide (0 ≤ s) && (if s = 0 then cs.all (fun c => decide (c = codeOf k 0 1)) else cs.contains (codeOf k 1 1) || (decide (codeE k (-1) 1 = 0) && cs.contains (codeOf k (-1) 1))))) ∧ Below w.heap.size w w' := by
 obtain ⟨a, b, rfl, ha, hb⟩ := h
 obtain ⟨Aa, Ca, rfl, _, _⟩ := id ha.form
 obtain ⟨Ab, Cb, rfl, _, _⟩ := id hb.form
 have hC := fun w h => rcodes_any (.agg #[.int .i64 k, .int .i64 s, .slice Aa cs.length Ca, .slice Ab 0 Cb]) k s cs wd w h
 have hk1 : decide (k < 0) = false := decide_eq_false (by omega)
 have hk2 : decide (4 < k) = false := decide_eq_false (by omega)
 have hk3 : ¬ k < 0 := by omega
 have hk4 : ¬ 4 < k := by omega
 have l1 : (cs.length : Int) ≤ 281474976710656 := by omega
 rw [show wd.length = 0 from by rw [hw]; rfl] at *
 have hl1 : decide ((4096 : Int) < (cs.length : Int)) = false := decide_eq_false (by omega)
 have hl2 : ¬ (4096 : Int) < (cs.length : Int) := by omega
 have hk5 : (k != 4) = true := by rw [bne_iff_ne]; omega
 have hk6 : decide (k = 4) = false := decide_eq_false (by omega)
 generalize (if s = 0 then cs.all (fun c => decide (c = codeOf k 0 1)) else cs.contains (codeOf k 1 1) || (decide (codeE k (-1) 1 = 0) && cs.contains (codeOf k (-1) 1))) = r at *
 obtain ⟨W0, hW, hR, hB⟩ := box1 w 103 #[.int .i64 k, .int .i64 s, .slice Aa cs.length Ca, .slice Ab 0 Cb]
 obtain ⟨g, hg⟩ : ∃ g, g = w.heap.size := ⟨_, rfl⟩
 have hW' := Lib.hid (And.intro hW hg)
 rw [← hg] at hR
 have hgw : w.heap.size ≤ g := by omega
 clear hW hg
 skip
 replace ha := ha.below hB
 replace hb := hb.below hB
 obtain ⟨c1_hR_0, c1_hR_1, c1_hR_2, c1_hR_3⟩ := hR.quad
 go_enter Tryz.func51, Tryz.ntmps51
 go_wp2_with fail
 rw [← hW'.out.1, ← hW'.out.2]
 refine (hC _ ⟨_, _, rfl, ha, hb⟩).mono ?_
 rintro e w1 ⟨rfl, b1⟩
 replace ha := ha.below b1
 replace hb := hb.below b1
 replace hR := hR.below b1 hR.lt
 replace hB := hB.trans (b1.mono hB.size)
 clear c1_hR_0 c1_hR_1 c1_hR_2 c1_hR_3
 obtain ⟨c2_hR_0, c2_hR_1, c2_hR_2, c2_hR_3⟩ := hR.quad
 go_wp2
 go_ret
 exact ⟨by simp, hB⟩
set_option maxRecDepth 100000 in
set_option maxHeartbeats 4000000 in
theorem rbright_wide (v : Value) (k s : Int) (cs : List Nat) (wd : List Int) (w : World) (h : IsBk w v k s cs wd) (h1 : cs.length ≤ 281474976710656) (h2 : wd.length ≤ 17592186044416) (hk : k = 4) (hf : cs.length + wd.length ≤ 4096) :
   Calls Tryz.prog 51 #[v] w fun e w' => e = .returned (.bool (blkR 4 s cs wd)) ∧ Below w.heap.size w w' := by
 obtain ⟨a, b, rfl, ha, hb⟩ := h
 obtain ⟨Aa, Ca, rfl, _, _⟩ := id ha.form
 obtain ⟨Ab, Cb, rfl, _, _⟩ := id hb.form
 have hC := fun w h => rcodes_any (.agg #[.int .i64 4, .int .i64 s, .slice Aa cs.length Ca, .slice Ab wd.length Cb]) k s cs wd w h
 have hl1 : decide ((4096 : Int) < (cs.length : Int) + (wd.length : Int)) = false := decide_eq_false (by omega)
 have hl2 : ¬ (4096 : Int) < (cs.length : Int) + (wd.length : Int) := by omega
 subst hk
 have l1 : (cs.length : Int) ≤ 281474976710656 := by omega
 have l2 : (wd.length : Int) ≤ 17592186044416 := by omega
 obtain ⟨r, hr⟩ : ∃ r, r = blkR 4 s cs wd := ⟨_, rfl⟩
 rw [← hr]
 have HR : Hid (r = (decide (s = 0) && (((cs.length : Int) == 0) && !decide ((-9223372036854775808 : Int) ∈ wd)))) := Lib.hid (by
   rw [hr]; unfold blkR
   rw [decide_eq_true hf, Bool.true_and, if_pos rfl, List.contains_eq_mem]
   congr 2
   cases cs <;> simp; omega)
 clear hr hC
 have hs4 : ((s == 0) = true ∧ decide (s = 0) = true) ∨ ((s == 0) = false ∧ decide (s = 0) = false) := by
   by_cases h : s = 0
   · left; simp [h]
   · right; simp [h]
 obtain ⟨W0, hW, hR, hB⟩ := box1 w 103 #[.int .i64 4, .int .i64 s, .slice Aa cs.length Ca, .slice Ab wd.length Cb]
 obtain ⟨g, hg⟩ : ∃ g, g = w.heap.size := ⟨_, rfl⟩
 have hW' := Lib.hid (And.intro hW hg)
 rw [← hg] at hR
 have hgw : w.heap.size ≤ g := by omega
 clear hW hg
 skip
 replace ha := ha.below hB
 replace hb := hb.below hB
 obtain ⟨c1_hR_0, c1_hR_1, c1_hR_2, c1_hR_3⟩ := hR.quad
 go_enter Tryz.func51, Tryz.ntmps51
 go_wp2
 rw [← hW'.out.1, ← hW'.out.2]
 go_loop [3] (fun i => ∃ j : Nat, j ≤ wd.length ∧ i = .int .i64 j ∧ Hid (-9223372036854775808 ∉ wd.take j)) (fun i => wd.length - (intOf i).toNat)
 case atStart => exact ⟨0, by omega, rfl, Lib.hid (by simp)⟩
 case round =>
   obtain ⟨j, hj, rfl, hno⟩ := hrel
   by_cases hlt : j < wd.length
   · obtain ⟨ad, rfl, hc⟩ := hb.at_ hlt
     have i0 : (0 : Int) ≤ (j : Int) := by omega
     have i1 : (j : Int) < (wd.length : Int) := by omega
     have HS := Lib.hid (iat_snoc_take wd j hlt)
     have HM := Lib.hid (iat_mem hlt)
     generalize iat wd j = x at *
     by_cases hx : x = -9223372036854775808
     · have hx1 : (x == -9223372036854775808) = true := by simpa using hx
       have hx2 : decide (x = -9223372036854775808) = true := by simpa using hx
       have HT := Lib.hid (show decide ((-9223372036854775808 : Int) ∈ wd) = true from decide_eq_true (by rw [← hx]; exact HM.out))
       clear hx
       go_wp2
       go_ret
       exact ⟨ret_bool (by rw [HR.out, HT.out]; simp), hB⟩
     · have hx1 : (x == -9223372036854775808) = false := by simpa using hx
       have hx2 : decide (x = -9223372036854775808) = false := by simpa using hx
       have HS2 := Lib.hid (take_not hno.out HS.out (fun h => hx h.symm))
       clear hx
       go_wp2
       go_round
       case rel => exact ⟨j + 1, by omega, by go_num, HS2⟩
       case measure => simp [intOf]; omega
   · obtain rfl : j = wd.length := by omega
     have HF := Lib.hid (show decide ((-9223372036854775808 : Int) ∈ wd) = false from decide_eq_false (by have := hno.out; rwa [List.take_length] at this))
     rcases hs4 with ⟨hs1, hs2⟩ | ⟨hs1, hs2⟩
     all_goals
       go_wp2
       go_ret
       exact ⟨ret_bool (by rw [HR.out, HF.out, hs2]; simp), hB⟩
theorem rbright_any (v : Value) (k s : Int) (cs : List Nat) (wd : List Int) (w : World) (h : IsBk w v k s cs wd) (h1 : cs.length ≤ 281474976710656) (h2 : wd.length ≤ 17592186044416) :
   Calls Tryz.prog 51 #[v] w fun e w' => e = .returned (.bool (blkR k s cs wd)) ∧ Below w.heap.size w w' := by
 by_cases hk : 0 ≤ k ∧ k ≤ 4
 · by_cases hf : cs.length + wd.length ≤ 4096
   · by_cases hk4 : k = 4
     · subst hk4
       exact rbright_wide v 4 s cs wd w h h1 h2 rfl hf
     · by_cases hw : wd = []
       · have e : blkR k s cs wd = (decide (0 ≤ s) && (if s = 0 then cs.all (fun c => decide (c = codeOf k 0 1)) else cs.contains (codeOf k 1 1) || (decide (codeE k (-1) 1 = 0) && cs.contains (codeOf k (-1) 1)))) := by
           unfold blkR; rw [decide_eq_true hf, Bool.true_and, if_neg hk4, decide_eq_true (show 0 ≤ k ∧ k ≤ 3 by omega), Bool.true_and, decide_eq_true hw, Bool.true_and]
         rw [e]
         exact rbright_coded v k s cs wd w h h1 h2 (by omega) (by omega) hw
       · have e : blkR k s cs wd = false := by
           unfold blkR; rw [decide_eq_true hf, Bool.true_and, if_neg hk4, decide_eq_true (show 0 ≤ k ∧ k ≤ 3 by omega), Bool.true_and, decide_eq_false hw, Bool.false_and]
         rw [e]
         exact rbright_cwide v k s cs wd w h h1 h2 (by omega) hf hw
   · have e : blkR k s cs wd = false := by unfold blkR; rw [decide_eq_false hf, Bool.false_and]
     rw [e]
     exact rbright_many v k s cs wd w h h1 h2 hk hf
 · have e : blkR k s cs wd = false := by
     unfold blkR; rw [if_neg (by omega), decide_eq_false (show ¬ (0 ≤ k ∧ k ≤ 3) by omega), Bool.false_and, Bool.and_false]
   rw [e]
   by_cases h0 : k < 0
   · exact rbright_low v k s cs wd w h h1 h2 h0
   · exact rbright_high v k s cs wd w h h1 h2 (by omega)
end Go.Proofs.YtdnjdglekifhpaaGreat
namespace Go.Proofs.YtdnjdglekifhpaaGreat
open Go.RowKit
attribute [local go_sem ↓] Go.wp_at_zero Go.wp_at_succ
set_option maxHeartbeats 1000000 in
theorem rwide14_any (k z m o n g : Int) (w : World) : Calls Tryz.prog 52 #[.agg #[.int .i64 k, .int .i64 z, .int .i64 m, .int .i64 o], .int .i64 n, .int .i64 g] w fun e w' => e = .returned (.bool (staysB m o n g)) ∧ Below w.heap.size w w' := by
 have HB := Lib.hid ((Below.refl w.heap.size w).alloc (Nat.le_refl _) (.cells #[.int .i64 k, .int .i64 z, .int .i64 m, .int .i64 o] 23))
 unfold staysB
 by_cases h1 : n < m <;> by_cases h2 : 0 < o
 all_goals
   first
     | rw [decide_eq_true h1]
     | rw [decide_eq_false h1]
   first
     | rw [decide_eq_true h2]
     | rw [decide_eq_false h2]
   go_enter Tryz.func52, Tryz.ntmps52
   go_wp2
   go_ret
   exact ⟨rfl, HB.out⟩
set_option maxRecDepth 100000 in
set_option maxHeartbeats 8000000 in
theorem rright14_may (v : Value) (k z m o n : Int) (bs : List Bk) (w : World) (h : IsSt w v (k, z, m, o, n, bs)) (hm : mayB k z m o = false) :
   Calls Tryz.prog 13 #[v] w fun e w' => e = .returned (.bool false) ∧ Below w.heap.size w w' := by
 obtain ⟨x, rfl, hx⟩ := h
 simp only at hx ⊢
 obtain ⟨A, c, rfl, hc1, hc2⟩ := hx.len
 have hM := fun w => rmay14_any k z m o w
 rw [hm] at hM
 obtain ⟨W0, hW, hR, hB⟩ := box1 w 26 #[.int .i64 k, .int .i64 z, .int .i64 m, .int .i64 o, .int .i64 n, .slice A bs.length c]
 obtain ⟨g, hg⟩ : ∃ g, g = w.heap.size := ⟨_, rfl⟩
 have hW' := Lib.hid (And.intro hW hg)
 rw [← hg] at hR
 have hgw : w.heap.size ≤ g := by omega
 clear hW hg
 have hX := hR
 replace hx := hx.below hB
 obtain ⟨c1_hX_0, c1_hX_1, c1_hX_2, c1_hX_3, c1_hX_4, c1_hX_5⟩ := hX.cells6t
 go_enter Tryz.func13, Tryz.ntmps13
 go_upto_region 1 with fail
 rw [← hW'.out.1, ← hW'.out.2]
 refine wp_region_noPanic ?_
 refine wp_region_held_drew (S := fun w' => w'.cell? ⟨g, 0, none⟩ = some (.int .i64 k) ∧ w'.cell? ⟨g, 1, none⟩ = some (.int .i64 z) ∧ w'.cell? ⟨g, 2, none⟩ = some (.int .i64 m) ∧ w'.cell? ⟨g, 3, none⟩ = some (.int .i64 o) ∧ w'.cell? ⟨g, 4, none⟩ = some (.int .i64 n) ∧ w'.cell? ⟨g, 5, none⟩ = some (.slice A bs.length c)) (by kernel_rfl) ?_ (fun hHeld => ?_)
 · exact ⟨(hX.below (by first | assumption | exact bdrew _ | exact Below.refl _ _) hX.lt).cell 0, (hX.below (by first | assumption | exact bdrew _ | exact Below.refl _ _) hX.lt).cell 1, (hX.below (by first | assumption | exact bdrew _ | exact Below.refl _ _) hX.lt).cell 2, (hX.below (by first | assumption | exact bdrew _ | exact Below.refl _ _) hX.lt).cell 3, (hX.below (by first | assumption | exact bdrew _ | exact Below.refl _ _) hX.lt).cell 4, (hX.below (by first | assumption | exact bdrew _ | exact Below.refl _ _) hX.lt).cell 5⟩
 refine tkH 0 rfl (v := ?b1_v0) ?b1_hy0 ?b1_rest0
 case b1_hy0 => (intro w hSw; (try dsimp only at hSw); go_simp; try (with_reducible rfl))
 try simp only [Act.put, lay1, lay3, lay4, lay5, lay6]
 refine tkH 1 rfl (v := ?b1_v1) ?b1_hy1 ?b1_rest1
 case b1_hy1 => (intro w hSw; (try dsimp only at hSw); go_simp; try (with_reducible rfl))
 try simp only [Act.put, lay1, lay2, lay3, lay4, lay5, lay6]
 refine wpAnyH_ready (rs := [2]) (by kernel_rfl) (by simp) ?_
 refine AllReadyH.cons rfl (fun K hK => ?_) AllReadyH.nil
 go_simp
 refine (hM _).mono ?_
 rintro e w1 ⟨rfl, b1⟩
 have b1 := bstep (bdrew W0) b1
 go_wp2_with fail
 refine hK.out _ _ ?_ (fun hHeld => ?_)
 · exact ⟨(hX.below (by first | assumption | exact bdrew _ | exact Below.refl _ _) hX.lt).cell 0, (hX.below (by first | assumption | exact bdrew _ | exact Below.refl _ _) hX.lt).cell 1, (hX.below (by first | assumption | exact bdrew _ | exact Below.refl _ _) hX.lt).cell 2, (hX.below (by first | assumption | exact bdrew _ | exact Below.refl _ _) hX.lt).cell 3, (hX.below (by first | assumption | exact bdrew _ | exact Below.refl _ _) hX.lt).cell 4, (hX.below (by first | assumption | exact bdrew _ | exact Below.refl _ _) hX.lt).cell 5⟩
 clear hK K
 refine tkH 3 rfl (v := ?b1_v3) ?b1_hy3 ?b1_rest3
 case b1_hy3 => (intro w hSw; (try dsimp only at hSw); go_simp; try (with_reducible rfl))
 refine tkH 4 rfl (v := ?b1_v4) ?b1_hy4 ?b1_rest4
 case b1_hy4 => (intro w hSw; (try dsimp only at hSw); go_simp; try (with_reducible rfl))
 refine tkS 5 rfl ?_
 refine tkS 6 rfl ?_
 refine tkS 7 rfl ?_
 refine tkH 8 rfl (v := ?b1_v8) ?b1_hy8 ?b1_rest8
 case b1_hy8 => (intro w hSw; (try dsimp only at hSw); go_simp; try (with_reducible rfl))
 refine tkH 9 rfl (v := ?b1_v9) ?b1_hy9 ?b1_rest9
 case b1_hy9 => (intro w hSw; (try dsimp only at hSw); go_simp; try (with_reducible rfl))
 refine tkS 10 rfl ?_
 refine tkS 11 rfl ?_
 refine tkS 12 rfl ?_
 refine tkH 13 rfl (v := ?b1_v13) ?b1_hy13 ?b1_rest13
 case b1_hy13 => (intro w hSw; (try dsimp only at hSw); go_simp; try (with_reducible rfl))
 refine tkH 14 rfl (v := ?b1_v14) ?b1_hy14 ?b1_rest14
 case b1_hy14 => (intro w hSw; (try dsimp only at hSw); go_simp; try (with_reducible rfl))
 refine tkS 15 rfl ?_
 refine tkS 16 rfl ?_
 refine tkS 17 rfl ?_
 refine tkS 18 rfl ?_
 refine tkS 19 rfl ?_
 refine tkS 20 rfl ?_
 refine tkS 21 rfl ?_
 refine tkS 22 rfl ?_
 refine tkS 23 rfl ?_
 refine tkS 24 rfl ?_
 refine tkS 25 rfl ?_
 refine tkS 26 rfl ?_
 refine tkS 27 rfl ?_
 refine tkS 28 rfl ?_
 try simp only [Act.put, lay1, lay2, lay3, lay4, lay5, lay6]
 try dsimp only
 refine tkS 29 rfl ?_
 try simp only [Act.put, lay1, lay2, lay3, lay4, lay5, lay6]
 try dsimp only
 refine tkH 30 rfl (v := ?b1_v30) ?b1_hy30 ?b1_rest30
 case b1_hy30 => (intro w hSw; (try dsimp only at hSw); go_simp; try (with_reducible rfl))
 try simp only [Act.put, lay1, lay2, lay3, lay4, lay5, lay6]
 try dsimp only
 try simp only [Act.put, lay1, lay2, lay3, lay4, lay5, lay6]
 refine wpAnyH_done (by kernel_rfl) ?_ _
 refine NoPanic.normal ?_
 replace hx := hx.below b1
 replace hX := hX.below b1 hX.lt
 replace hB := hB.trans (b1.mono hB.size)
 clear c1_hX_0 c1_hX_1 c1_hX_2 c1_hX_3 c1_hX_4 c1_hX_5
 obtain ⟨c2_hX_0, c2_hX_1, c2_hX_2, c2_hX_3, c2_hX_4, c2_hX_5⟩ := hX.cells6t
 go_wp2
 go_ret
 exact ⟨rfl, hB⟩
set_option maxRecDepth 100000 in
set_option maxHeartbeats 8000000 in
theorem rright14_neg (v : Value) (k z m o n : Int) (bs : List Bk) (w : World) (h : IsSt w v (k, z, m, o, n, bs)) (hm : mayB k z m o = true) (hn : n < 0) :
   Calls Tryz.prog 13 #[v] w fun e w' => e = .returned (.bool false) ∧ Below w.heap.size w w' := by
 obtain ⟨x, rfl, hx⟩ := h
 simp only at hx ⊢
 obtain ⟨A, c, rfl, hc1, hc2⟩ := hx.len
 have hM := fun w => rmay14_any k z m o w
 rw [hm] at hM
 have n1 : decide (n < 0) = true := decide_eq_true hn
 obtain ⟨W0, hW, hR, hB⟩ := box1 w 26 #[.int .i64 k, .int .i64 z, .int .i64 m, .int .i64 o, .int .i64 n, .slice A bs.length c]
 obtain ⟨g, hg⟩ : ∃ g, g = w.heap.size := ⟨_, rfl⟩
 have hW' := Lib.hid (And.intro hW hg)
 rw [← hg] at hR
 have hgw : w.heap.size ≤ g := by omega
 clear hW hg
 have hX := hR
 replace hx := hx.below hB
 obtain ⟨c1_hX_0, c1_hX_1, c1_hX_2, c1_hX_3, c1_hX_4, c1_hX_5⟩ := hX.cells6t
 go_enter Tryz.func13, Tryz.ntmps13
 go_upto_region 1 with fail
 rw [← hW'.out.1, ← hW'.out.2]
 refine wp_region_noPanic ?_
 refine wp_region_held_drew (S := fun w' => w'.cell? ⟨g, 0, none⟩ = some (.int .i64 k) ∧ w'.cell? ⟨g, 1, none⟩ = some (.int .i64 z) ∧ w'.cell? ⟨g, 2, none⟩ = some (.int .i64 m) ∧ w'.cell? ⟨g, 3, none⟩ = some (.int .i64 o) ∧ w'.cell? ⟨g, 4, none⟩ = some (.int .i64 n) ∧ w'.cell? ⟨g, 5, none⟩ = some (.slice A bs.length c)) (by kernel_rfl) ?_ (fun hHeld => ?_)
 · exact ⟨(hX.below (by first | assumption | exact bdrew _ | exact Below.refl _ _) hX.lt).cell 0, (hX.below (by first | assumption | exact bdrew _ | exact Below.refl _ _) hX.lt).cell 1, (hX.below (by first | assumption | exact bdrew _ | exact Below.refl _ _) hX.lt).cell 2, (hX.below (by first | assumption | exact bdrew _ | exact Below.refl _ _) hX.lt).cell 3, (hX.below (by first | assumption | exact bdrew _ | exact Below.refl _ _) hX.lt).cell 4, (hX.below (by first | assumption | exact bdrew _ | exact Below.refl _ _) hX.lt).cell 5⟩
 refine tkH 0 rfl (v := ?b2_v0) ?b2_hy0 ?b2_rest0
 case b2_hy0 => (intro w hSw; (try dsimp only at hSw); go_simp; try (with_reducible rfl))
 try simp only [Act.put, lay1, lay3, lay4, lay5, lay6]
 refine tkH 1 rfl (v := ?b2_v1) ?b2_hy1 ?b2_rest1
 case b2_hy1 => (intro w hSw; (try dsimp only at hSw); go_simp; try (with_reducible rfl))
 try simp only [Act.put, lay1, lay2, lay3, lay4, lay5, lay6]
 refine wpAnyH_ready (rs := [2]) (by kernel_rfl) (by simp) ?_
 refine AllReadyH.cons rfl (fun K hK => ?_) AllReadyH.nil
 go_simp
 refine (hM _).mono ?_
 rintro e w1 ⟨rfl, b1⟩
 have b1 := bstep (bdrew W0) b1
 go_wp2_with fail
 refine hK.out _ _ ?_ (fun hHeld => ?_)
 · exact ⟨(hX.below (by first | assumption | exact bdrew _ | exact Below.refl _ _) hX.lt).cell 0, (hX.below (by first | assumption | exact bdrew _ | exact Below.refl _ _) hX.lt).cell 1, (hX.below (by first | assumption | exact bdrew _ | exact Below.refl _ _) hX.lt).cell 2, (hX.below (by first | assumption | exact bdrew _ | exact Below.refl _ _) hX.lt).cell 3, (hX.below (by first | assumption | exact bdrew _ | exact Below.refl _ _) hX.lt).cell 4, (hX.below (by first | assumption | exact bdrew _ | exact Below.refl _ _) hX.lt).cell 5⟩
 clear hK K
 refine tkH 3 rfl (v := ?b2_v3) ?b2_hy3 ?b2_rest3
 case b2_hy3 => (intro w hSw; (try dsimp only at hSw); go_simp; try (with_reducible rfl))
 refine tkH 4 rfl (v := ?b2_v4) ?b2_hy4 ?b2_rest4
 case b2_hy4 => (intro w hSw; (try dsimp only at hSw); go_simp; try (with_reducible rfl))
 refine tkH 5 rfl (v := ?b2_v5) ?b2_hy5 ?b2_rest5
 case b2_hy5 => (intro w hSw; (try dsimp only at hSw); go_simp; try (with_reducible rfl))
 refine tkH 6 rfl (v := ?b2_v6) ?b2_hy6 ?b2_rest6
 case b2_hy6 => (intro w hSw; (try dsimp only at hSw); go_simp; try (with_reducible rfl))
 refine tkH 7 rfl (v := ?b2_v7) ?b2_hy7 ?b2_rest7
 case b2_hy7 => (intro w hSw; (try dsimp only at hSw); go_simp; try (with_reducible rfl))
 refine tkH 8 rfl (v := ?b2_v8) ?b2_hy8 ?b2_rest8
 case b2_hy8 => (intro w hSw; (try dsimp only at hSw); go_simp; try (with_reducible rfl))
 refine tkH 9 rfl (v := ?b2_v9) ?b2_hy9 ?b2_rest9
 case b2_hy9 => (intro w hSw; (try dsimp only at hSw); go_simp; try (with_reducible rfl))
 refine tkS 10 rfl ?_
 refine tkS 11 rfl ?_
 refine tkS 12 rfl ?_
 refine tkH 13 rfl (v := ?b2_v13) ?b2_hy13 ?b2_rest13
 case b2_hy13 => (intro w hSw; (try dsimp only at hSw); go_simp; try (with_reducible rfl))
 refine tkH 14 rfl (v := ?b2_v14) ?b2_hy14 ?b2_rest14
 case b2_hy14 => (intro w hSw; (try dsimp only at hSw); go_simp; try (with_reducible rfl))
 refine tkS 15 rfl ?_
 refine tkS 16 rfl ?_
 refine tkS 17 rfl ?_
 refine tkS 18 rfl ?_
 refine tkS 19 rfl ?_
 refine tkS 20 rfl ?_
 refine tkS 21 rfl ?_
 refine tkS 22 rfl ?_
 refine tkS 23 rfl ?_
 refine tkS 24 rfl ?_
 refine tkS 25 rfl ?_
 refine tkS 26 rfl ?_
 refine tkS 27 rfl ?_
 refine tkS 28 rfl ?_
 try simp only [Act.put, lay1, lay2, lay3, lay4, lay5, lay6]
 try dsimp only
 refine tkS 29 rfl ?_
 try simp only [Act.put, lay1, lay2, lay3, lay4, lay5, lay6]
 try dsimp only
 refine tkH 30 rfl (v := ?b2_v30) ?b2_hy30 ?b2_rest30
 case b2_hy30 => (intro w hSw; (try dsimp only at hSw); go_simp; try (with_reducible rfl))
 try simp only [Act.put, lay1, lay2, lay3, lay4, lay5, lay6]
 try dsimp only
 try simp only [Act.put, lay1, lay2, lay3, lay4, lay5, lay6]
 refine wpAnyH_done (by kernel_rfl) ?_ _
 refine NoPanic.normal ?_
 replace hx := hx.below b1
 replace hX := hX.below b1 hX.lt
 replace hB := hB.trans (b1.mono hB.size)
 clear c1_hX_0 c1_hX_1 c1_hX_2 c1_hX_3 c1_hX_4 c1_hX_5
 obtain ⟨c2_hX_0, c2_hX_1, c2_hX_2, c2_hX_3, c2_hX_4, c2_hX_5⟩ := hX.cells6t
 go_wp2
 go_ret
 exact ⟨rfl, hB⟩
set_option maxRecDepth 100000 in
set_option maxHeartbeats 8000000 in
theorem rright14_big (v : Value) (k z m o n : Int) (bs : List Bk) (w : World) (h : IsSt w v (k, z, m, o, n, bs)) (hm : mayB k z m o = true) (_hn : 0 ≤ n) (hn2 : 4096 < n) :
   Calls Tryz.prog 13 #[v] w fun e w' => e = .returned (.bool false) ∧ Below w.heap.size w w' := by
 obtain ⟨x, rfl, hx⟩ := h
 simp only at hx ⊢
 obtain ⟨A, c, rfl, hc1, hc2⟩ := hx.len
 have hM := fun w => rmay14_any k z m o w
 rw [hm] at hM
 have n1 : decide (n < 0) = false := decide_eq_false (by omega)
 have n2 : decide (4096 < n) = true := decide_eq_true hn2
 obtain ⟨W0, hW, hR, hB⟩ := box1 w 26 #[.int .i64 k, .int .i64 z, .int .i64 m, .int .i64 o, .int .i64 n, .slice A bs.length c]
 obtain ⟨g, hg⟩ : ∃ g, g = w.heap.size := ⟨_, rfl⟩
 have hW' := Lib.hid (And.intro hW hg)
 rw [← hg] at hR
 have hgw : w.heap.size ≤ g := by omega
 clear hW hg
 have hX := hR
 replace hx := hx.below hB
 obtain ⟨c1_hX_0, c1_hX_1, c1_hX_2, c1_hX_3, c1_hX_4, c1_hX_5⟩ := hX.cells6t
 go_enter Tryz.func13, Tryz.ntmps13
 go_upto_region 1 with fail
 rw [← hW'.out.1, ← hW'.out.2]
 refine wp_region_noPanic ?_
 refine wp_region_held_drew (S := fun w' => w'.cell? ⟨g, 0, none⟩ = some (.int .i64 k) ∧ w'.cell? ⟨g, 1, none⟩ = some (.int .i64 z) ∧ w'.cell? ⟨g, 2, none⟩ = some (.int .i64 m) ∧ w'.cell? ⟨g, 3, none⟩ = some (.int .i64 o) ∧ w'.cell? ⟨g, 4, none⟩ = some (.int .i64 n) ∧ w'.cell? ⟨g, 5, none⟩ = some (.slice A bs.length c)) (by kernel_rfl) ?_ (fun hHeld => ?_)
 · exact ⟨(hX.below (by first | assumption | exact bdrew _ | exact Below.refl _ _) hX.lt).cell 0, (hX.below (by first | assumption | exact bdrew _ | exact Below.refl _ _) hX.lt).cell 1, (hX.below (by first | assumption | exact bdrew _ | exact Below.refl _ _) hX.lt).cell 2, (hX.below (by first | assumption | exact bdrew _ | exact Below.refl _ _) hX.lt).cell 3, (hX.below (by first | assumption | exact bdrew _ | exact Below.refl _ _) hX.lt).cell 4, (hX.below (by first | assumption | exact bdrew _ | exact Below.refl _ _) hX.lt).cell 5⟩
 refine tkH 0 rfl (v := ?b3_v0) ?b3_hy0 ?b3_rest0
 case b3_hy0 => (intro w hSw; (try dsimp only at hSw); go_simp; try (with_reducible rfl))
 try simp only [Act.put, lay1, lay3, lay4, lay5, lay6]
 refine tkH 1 rfl (v := ?b3_v1) ?b3_hy1 ?b3_rest1
 case b3_hy1 => (intro w hSw; (try dsimp only at hSw); go_simp; try (with_reducible rfl))
 try simp only [Act.put, lay1, lay2, lay3, lay4, lay5, lay6]
 refine wpAnyH_ready (rs := [2]) (by kernel_rfl) (by simp) ?_
 refine AllReadyH.cons rfl (fun K hK => ?_) AllReadyH.nil
 go_simp
 refine (hM _).mono ?_
 rintro e w1 ⟨rfl, b1⟩
 have b1 := bstep (bdrew W0) b1
 go_wp2_with fail
 refine hK.out _ _ ?_ (fun hHeld => ?_)
 · exact ⟨(hX.below (by first | assumption | exact bdrew _ | exact Below.refl _ _) hX.lt).cell 0, (hX.below (by first | assumption | exact bdrew _ | exact Below.refl _ _) hX.lt).cell 1, (hX.below (by first | assumption | exact bdrew _ | exact Below.refl _ _) hX.lt).cell 2, (hX.below (by first | assumption | exact bdrew _ | exact Below.refl _ _) hX.lt).cell 3, (hX.below (by first | assumption | exact bdrew _ | exact Below.refl _ _) hX.lt).cell 4, (hX.below (by first | assumption | exact bdrew _ | exact Below.refl _ _) hX.lt).cell 5⟩
 clear hK K
 refine tkH 3 rfl (v := ?b3_v3) ?b3_hy3 ?b3_rest3
 case b3_hy3 => (intro w hSw; (try dsimp only at hSw); go_simp; try (with_reducible rfl))
 refine tkH 4 rfl (v := ?b3_v4) ?b3_hy4 ?b3_rest4
 case b3_hy4 => (intro w hSw; (try dsimp only at hSw); go_simp; try (with_reducible rfl))
 refine tkH 5 rfl (v := ?b3_v5) ?b3_hy5 ?b3_rest5
 case b3_hy5 => (intro w hSw; (try dsimp only at hSw); go_simp; try (with_reducible rfl))
 refine tkH 6 rfl (v := ?b3_v6) ?b3_hy6 ?b3_rest6
 case b3_hy6 => (intro w hSw; (try dsimp only at hSw); go_simp; try (with_reducible rfl))
 refine tkH 7 rfl (v := ?b3_v7) ?b3_hy7 ?b3_rest7
 case b3_hy7 => (intro w hSw; (try dsimp only at hSw); go_simp; try (with_reducible rfl))
 refine tkH 8 rfl (v := ?b3_v8) ?b3_hy8 ?b3_rest8
 case b3_hy8 => (intro w hSw; (try dsimp only at hSw); go_simp; try (with_reducible rfl))
 refine tkH 9 rfl (v := ?b3_v9) ?b3_hy9 ?b3_rest9
 case b3_hy9 => (intro w hSw; (try dsimp only at hSw); go_simp; try (with_reducible rfl))
 refine tkH 10 rfl (v := ?b3_v10) ?b3_hy10 ?b3_rest10
 case b3_hy10 => (intro w hSw; (try dsimp only at hSw); go_simp; try (with_reducible rfl))
 refine tkH 11 rfl (v := ?b3_v11) ?b3_hy11 ?b3_rest11
 case b3_hy11 => (intro w hSw; (try dsimp only at hSw); go_simp; try (with_reducible rfl))
 refine tkH 12 rfl (v := ?b3_v12) ?b3_hy12 ?b3_rest12
 case b3_hy12 => (intro w hSw; (try dsimp only at hSw); go_simp; try (with_reducible rfl))
 refine tkH 13 rfl (v := ?b3_v13) ?b3_hy13 ?b3_rest13
 case b3_hy13 => (intro w hSw; (try dsimp only at hSw); go_simp; try (with_reducible rfl))
 refine tkH 14 rfl (v := ?b3_v14) ?b3_hy14 ?b3_rest14
 case b3_hy14 => (intro w hSw; (try dsimp only at hSw); go_simp; try (with_reducible rfl))
 refine tkS 15 rfl ?_
 refine tkS 16 rfl ?_
 refine tkS 17 rfl ?_
 refine tkS 18 rfl ?_
 refine tkS 19 rfl ?_
 refine tkS 20 rfl ?_
 refine tkS 21 rfl ?_
 refine tkS 22 rfl ?_
 refine tkS 23 rfl ?_
 refine tkS 24 rfl ?_
 refine tkS 25 rfl ?_
 refine tkS 26 rfl ?_
 refine tkS 27 rfl ?_
 refine tkS 28 rfl ?_
 try simp only [Act.put, lay1, lay2, lay3, lay4, lay5, lay6]
 try dsimp only
 refine tkS 29 rfl ?_
 try simp only [Act.put, lay1, lay2, lay3, lay4, lay5, lay6]
 try dsimp only
 refine tkH 30 rfl (v := ?b3_v30) ?b3_hy30 ?b3_rest30
 case b3_hy30 => (intro w hSw; (try dsimp only at hSw); go_simp; try (with_reducible rfl))
 try simp only [Act.put, lay1, lay2, lay3, lay4, lay5, lay6]
 try dsimp only
 try simp only [Act.put, lay1, lay2, lay3, lay4, lay5, lay6]
 refine wpAnyH_done (by kernel_rfl) ?_ _
 refine NoPanic.normal ?_
 replace hx := hx.below b1
 replace hX := hX.below b1 hX.lt
 replace hB := hB.trans (b1.mono hB.size)
 clear c1_hX_0 c1_hX_1 c1_hX_2 c1_hX_3 c1_hX_4 c1_hX_5
 obtain ⟨c2_hX_0, c2_hX_1, c2_hX_2, c2_hX_3, c2_hX_4, c2_hX_5⟩ := hX.cells6t
 go_wp2
 go_ret
 exact ⟨rfl, hB⟩
set_option maxRecDepth 100000 in
set_option maxHeartbeats 8000000 in
theorem rright14_len (v : Value) (k z m o n : Int) (bs : List Bk) (w : World) (h : IsSt w v (k, z, m, o, n, bs)) (hm : mayB k z m o = true) (hn : 0 ≤ n) (hn2 : n ≤ 4096) (hb : (bs.length : Int) ≠ (partN z.toNat n.toNat : Nat)) :
   Calls Tryz.prog 13 #[v] w fun e w' => e = .returned (.bool false) ∧ Below w.heap.size w w' := by
 obtain ⟨x, rfl, hx⟩ := h
 simp only at hx ⊢
 obtain ⟨A, c, rfl, hc1, hc2⟩ := hx.len
 have hM := fun w => rmay14_any k z m o w
 rw [hm] at hM
 have n1 : decide (n < 0) = false := decide_eq_false (by omega)
 have n2 : decide (4096 < n) = false := decide_eq_false (by omega)
 obtain ⟨Z, rfl, z1, z2⟩ := size_of hm
 obtain ⟨N, rfl⟩ := Int.eq_ofNat_of_zero_le hn
 have hN : N ≤ 4096 := by omega
 obtain ⟨s1, hs1⟩ : ∃ s1 : Int, s1 = (N : Int) + (Z : Int) := ⟨_, rfl⟩
 obtain ⟨s2, hs2⟩ : ∃ s2 : Int, s2 = s1 - 1 := ⟨_, rfl⟩
 obtain ⟨q, hq⟩ : ∃ q : Int, q = ((partN Z N : Nat) : Int) := ⟨_, rfl⟩
 have hw1 : IntKind.i64.wrap ((N : Int) + (Z : Int)) = s1 := by rw [IntKind.wrap_i64, hs1]; omega
 have hw2 : IntKind.i64.wrap (s1 - 1) = s2 := by rw [IntKind.wrap_i64, hs2, hs1]; omega
 have hq0 : s2.tdiv (Z : Int) = q := by
   rw [hq, hs2, hs1, partN_int z1, Int.tdiv_eq_ediv_of_nonneg (by omega)]
 have hqb : 0 ≤ q ∧ q ≤ 4096 := by rw [hq]; have := partN_le (n := N) z1; omega
 have hw3 : IntKind.i64.wrap (s2.tdiv (Z : Int)) = q := by rw [hq0, IntKind.wrap_i64]; omega
 have hz0 : ((Z : Int) == 0) = false := by rw [beq_eq_false_iff_ne]; omega
 have hz3 : (Z : Int) ≠ 0 := by omega
 have hz4 : ¬ Z = 0 := by omega
 rw [Int.toNat_natCast, Int.toNat_natCast, ← hq] at hb
 have hbe : ((bs.length : Int) != q) = true := by rw [bne_iff_ne]; exact hb
 have hbe2 : decide ((bs.length : Int) = q) = false := decide_eq_false hb
 clear hq
 clear hs1 hs2 hq0 hqb
 obtain ⟨W0, hW, hR, hB⟩ := box1 w 26 #[.int .i64 k, .int .i64 Z, .int .i64 m, .int .i64 o, .int .i64 N, .slice A bs.length c]
 obtain ⟨g, hg⟩ : ∃ g, g = w.heap.size := ⟨_, rfl⟩
 have hW' := Lib.hid (And.intro hW hg)
 rw [← hg] at hR
 have hgw : w.heap.size ≤ g := by omega
 clear hW hg
 have hX := hR
 replace hx := hx.below hB
 obtain ⟨c1_hX_0, c1_hX_1, c1_hX_2, c1_hX_3, c1_hX_4, c1_hX_5⟩ := hX.cells6t
 go_enter Tryz.func13, Tryz.ntmps13
 go_upto_region 1 with fail
 rw [← hW'.out.1, ← hW'.out.2]
 refine wp_region_noPanic ?_
 refine wp_region_held_drew (S := fun w' => w'.cell? ⟨g, 0, none⟩ = some (.int .i64 k) ∧ w'.cell? ⟨g, 1, none⟩ = some (.int .i64 Z) ∧ w'.cell? ⟨g, 2, none⟩ = some (.int .i64 m) ∧ w'.cell? ⟨g, 3, none⟩ = some (.int .i64 o) ∧ w'.cell? ⟨g, 4, none⟩ = some (.int .i64 N) ∧ w'.cell? ⟨g, 5, none⟩ = some (.slice A bs.length c)) (by kernel_rfl) ?_ (fun hHeld => ?_)
 · exact ⟨(hX.below (by first | assumption | exact bdrew _ | exact Below.refl _ _) hX.lt).cell 0, (hX.below (by first | assumption | exact bdrew _ | exact Below.refl _ _) hX.lt).cell 1, (hX.below (by first | assumption | exact bdrew _ | exact Below.refl _ _) hX.lt).cell 2, (hX.below (by first | assumption | exact bdrew _ | exact Below.refl _ _) hX.lt).cell 3, (hX.below (by first | assumption | exact bdrew _ | exact Below.refl _ _) hX.lt).cell 4, (hX.below (by first | assumption | exact bdrew _ | exact Below.refl _ _) hX.lt).cell 5⟩
 refine tkH 0 rfl (v := ?b4_v0) ?b4_hy0 ?b4_rest0
 case b4_hy0 => (intro w hSw; (try dsimp only at hSw); go_simp; try (with_reducible rfl))
 try simp only [Act.put, lay1, lay3, lay4, lay5, lay6]
 refine tkH 1 rfl (v := ?b4_v1) ?b4_hy1 ?b4_rest1
 case b4_hy1 => (intro w hSw; (try dsimp only at hSw); go_simp; try (with_reducible rfl))
 try simp only [Act.put, lay1, lay2, lay3, lay4, lay5, lay6]
 refine wpAnyH_ready (rs := [2]) (by kernel_rfl) (by simp) ?_
 refine AllReadyH.cons rfl (fun K hK => ?_) AllReadyH.nil
 go_simp
 refine (hM _).mono ?_
 rintro e w1 ⟨rfl, b1⟩
 have b1 := bstep (bdrew W0) b1
 go_wp2_with fail
 refine hK.out _ _ ?_ (fun hHeld => ?_)
 · exact ⟨(hX.below (by first | assumption | exact bdrew _ | exact Below.refl _ _) hX.lt).cell 0, (hX.below (by first | assumption | exact bdrew _ | exact Below.refl _ _) hX.lt).cell 1, (hX.below (by first | assumption | exact bdrew _ | exact Below.refl _ _) hX.lt).cell 2, (hX.below (by first | assumption | exact bdrew _ | exact Below.refl _ _) hX.lt).cell 3, (hX.below (by first | assumption | exact bdrew _ | exact Below.refl _ _) hX.lt).cell 4, (hX.below (by first | assumption | exact bdrew _ | exact Below.refl _ _) hX.lt).cell 5⟩
 clear hK K
 refine tkH 3 rfl (v := ?b4_v3) ?b4_hy3 ?b4_rest3
 case b4_hy3 => (intro w hSw; (try dsimp only at hSw); go_simp; try (with_reducible rfl))
 refine tkH 4 rfl (v := ?b4_v4) ?b4_hy4 ?b4_rest4
 case b4_hy4 => (intro w hSw; (try dsimp only at hSw); go_simp; try (with_reducible rfl))
 refine tkH 5 rfl (v := ?b4_v5) ?b4_hy5 ?b4_rest5
 case b4_hy5 => (intro w hSw; (try dsimp only at hSw); go_simp; try (with_reducible rfl))
 refine tkH 6 rfl (v := ?b4_v6) ?b4_hy6 ?b4_rest6
 case b4_hy6 => (intro w hSw; (try dsimp only at hSw); go_simp; try (with_reducible rfl))
 refine tkH 7 rfl (v := ?b4_v7) ?b4_hy7 ?b4_rest7
 case b4_hy7 => (intro w hSw; (try dsimp only at hSw); go_simp; try (with_reducible rfl))
 refine tkH 8 rfl (v := ?b4_v8) ?b4_hy8 ?b4_rest8
 case b4_hy8 => (intro w hSw; (try dsimp only at hSw); go_simp; try (with_reducible rfl))
 refine tkH 9 rfl (v := ?b4_v9) ?b4_hy9 ?b4_rest9
 case b4_hy9 => (intro w hSw; (try dsimp only at hSw); go_simp; try (with_reducible rfl))
 refine tkH 10 rfl (v := ?b4_v10) ?b4_hy10 ?b4_rest10
 case b4_hy10 => (intro w hSw; (try dsimp only at hSw); go_simp; try (with_reducible rfl))
 refine tkH 11 rfl (v := ?b4_v11) ?b4_hy11 ?b4_rest11
 case b4_hy11 => (intro w hSw; (try dsimp only at hSw); go_simp; try (with_reducible rfl))
 refine tkH 12 rfl (v := ?b4_v12) ?b4_hy12 ?b4_rest12
 case b4_hy12 => (intro w hSw; (try dsimp only at hSw); go_simp; try (with_reducible rfl))
 refine tkH 13 rfl (v := ?b4_v13) ?b4_hy13 ?b4_rest13
 case b4_hy13 => (intro w hSw; (try dsimp only at hSw); go_simp; try (with_reducible rfl))
 refine tkH 14 rfl (v := ?b4_v14) ?b4_hy14 ?b4_rest14
 case b4_hy14 => (intro w hSw; (try dsimp only at hSw); go_simp; try (with_reducible rfl))
 refine tkH 15 rfl (v := ?b4_v15) ?b4_hy15 ?b4_rest15
 case b4_hy15 => (intro w hSw; (try dsimp only at hSw); go_simp; try (with_reducible rfl))
 refine tkH 16 rfl (v := ?b4_v16) ?b4_hy16 ?b4_rest16
 case b4_hy16 => (intro w hSw; (try dsimp only at hSw); go_simp; try (with_reducible rfl))
 refine tkH 17 rfl (v := ?b4_v17) ?b4_hy17 ?b4_rest17
 case b4_hy17 => (intro w hSw; (try dsimp only at hSw); go_simp; try (with_reducible rfl))
 refine tkH 18 rfl (v := ?b4_v18) ?b4_hy18 ?b4_rest18
 case b4_hy18 => (intro w hSw; (try dsimp only at hSw); go_simp; try (with_reducible rfl))
 refine tkH 19 rfl (v := ?b4_v19) ?b4_hy19 ?b4_rest19
 case b4_hy19 => (intro w hSw; (try dsimp only at hSw); go_simp; try (with_reducible rfl))
 refine tkH 20 rfl (v := ?b4_v20) ?b4_hy20 ?b4_rest20
 case b4_hy20 => (intro w hSw; (try dsimp only at hSw); go_simp; try (with_reducible rfl))
 refine tkH 21 rfl (v := ?b4_v21) ?b4_hy21 ?b4_rest21
 case b4_hy21 => (intro w hSw; (try dsimp only at hSw); go_simp; try (with_reducible rfl))
 refine tkH 22 rfl (v := ?b4_v22) ?b4_hy22 ?b4_rest22
 case b4_hy22 => (intro w hSw; (try dsimp only at hSw); go_simp; try (with_reducible rfl))
 refine tkH 23 rfl (v := ?b4_v23) ?b4_hy23 ?b4_rest23
 case b4_hy23 => (intro w hSw; (try dsimp only at hSw); go_simp; try (with_reducible rfl))
 refine tkH 24 rfl (v := ?b4_v24) ?b4_hy24 ?b4_rest24
 case b4_hy24 => (intro w hSw; (try dsimp only at hSw); go_simp; try (with_reducible rfl))
 refine tkH 25 rfl (v := ?b4_v25) ?b4_hy25 ?b4_rest25
 case b4_hy25 => (intro w hSw; (try dsimp only at hSw); go_simp; try (with_reducible rfl))
 refine tkH 26 rfl (v := ?b4_v26) ?b4_hy26 ?b4_rest26
 case b4_hy26 => (intro w hSw; (try dsimp only at hSw); go_simp; try (with_reducible rfl))
 refine tkH 27 rfl (v := ?b4_v27) ?b4_hy27 ?b4_rest27
 case b4_hy27 => (intro w hSw; (try dsimp only at hSw); go_simp; try (with_reducible rfl))
 refine tkH 28 rfl (v := ?b4_v28) ?b4_hy28 ?b4_rest28
 case b4_hy28 => (intro w hSw; (try dsimp only at hSw); go_simp; try (with_reducible rfl))
 try simp only [Act.put, lay1, lay2, lay3, lay4, lay5, lay6]
 try dsimp only
 refine tkH 29 rfl (v := ?b4_v29) ?b4_hy29 ?b4_rest29
 case b4_hy29 => (intro w hSw; (try dsimp only at hSw); go_simp; try (with_reducible rfl))
 try simp only [Act.put, lay1, lay2, lay3, lay4, lay5, lay6]
 try dsimp only
 refine tkH 30 rfl (v := ?b4_v30) ?b4_hy30 ?b4_rest30
 case b4_hy30 => (intro w hSw; (try dsimp only at hSw); go_simp; try (with_reducible rfl))
 try simp only [Act.put, lay1, lay2, lay3, lay4, lay5, lay6]
 try dsimp only
 try simp only [Act.put, lay1, lay2, lay3, lay4, lay5, lay6]
 refine wpAnyH_done (by kernel_rfl) ?_ _
 refine NoPanic.normal ?_
 replace hx := hx.below b1
 replace hX := hX.below b1 hX.lt
 replace hB := hB.trans (b1.mono hB.size)
 clear c1_hX_0 c1_hX_1 c1_hX_2 c1_hX_3 c1_hX_4 c1_hX_5
 obtain ⟨c2_hX_0, c2_hX_1, c2_hX_2, c2_hX_3, c2_hX_4, c2_hX_5⟩ := hX.cells6t
 go_wp2
 go_ret
 exact ⟨rfl, hB⟩
end Go.Proofs.YtdnjdglekifhpaaGreat
namespace Go.Proofs.YtdnjdglekifhpaaGreat
open Go.RowKit
attribute [local go_sem ↓] Go.wp_at_zero Go.wp_at_succ
theorem blkR_wide {s : Int} {cs : List Nat} {wd : List Int} (h : blkR 4 s cs wd = true) : ∀ x ∈ wd, x ≠ -9223372036854775808 := by
 intro x hx e
 unfold blkR at h
 rw [if_pos rfl] at h
 simp only [Bool.and_eq_true, Bool.not_eq_true', decide_eq_true_eq] at h
 have := h.2.2.2
 rw [e] at hx
 rw [List.contains_iff_mem.2 hx] at this
 cases this
set_option maxRecDepth 100000 in
set_option maxHeartbeats 8000000 in
theorem rright14_main (v : Value) (k z m o n : Int) (bs : List Bk) (w : World) (h : IsSt w v (k, z, m, o, n, bs)) (hm : mayB k z m o = true) (hn : 0 ≤ n) (hn2 : n ≤ 4096) (hb : (bs.length : Int) = (partN z.toNat n.toNat : Nat)) (hlb : ∀ b ∈ bs, BkIn b) :
   Calls Tryz.prog 13 #[v] w fun e w' => e = .returned (.bool (okTo k z m o n bs bs.length)) ∧ Below w.heap.size w w' := by
 obtain ⟨x, rfl, hx⟩ := h
 simp only at hx ⊢
 obtain ⟨A, c, rfl, hc1, hc2⟩ := hx.len
 have hM := fun w => rmay14_any k z m o w
 rw [hm] at hM
 have n1 : decide (n < 0) = false := decide_eq_false (by omega)
 have n2 : decide (4096 < n) = false := decide_eq_false (by omega)
 obtain ⟨Z, rfl, z1, z2⟩ := size_of hm
 obtain ⟨N, rfl⟩ := Int.eq_ofNat_of_zero_le hn
 have hN : N ≤ 4096 := by omega
 obtain ⟨s1, hs1⟩ : ∃ s1 : Int, s1 = (N : Int) + (Z : Int) := ⟨_, rfl⟩
 obtain ⟨s2, hs2⟩ : ∃ s2 : Int, s2 = s1 - 1 := ⟨_, rfl⟩
 obtain ⟨q, hq⟩ : ∃ q : Int, q = ((partN Z N : Nat) : Int) := ⟨_, rfl⟩
 have hw1 : IntKind.i64.wrap ((N : Int) + (Z : Int)) = s1 := by rw [IntKind.wrap_i64, hs1]; omega
 have hw2 : IntKind.i64.wrap (s1 - 1) = s2 := by rw [IntKind.wrap_i64, hs2, hs1]; omega
 have hq0 : s2.tdiv (Z : Int) = q := by
   rw [hq, hs2, hs1, partN_int z1, Int.tdiv_eq_ediv_of_nonneg (by omega)]
 have hqb : 0 ≤ q ∧ q ≤ 4096 := by rw [hq]; have := partN_le (n := N) z1; omega
 have hw3 : IntKind.i64.wrap (s2.tdiv (Z : Int)) = q := by rw [hq0, IntKind.wrap_i64]; omega
 have hz0 : ((Z : Int) == 0) = false := by rw [beq_eq_false_iff_ne]; omega
 have hz3 : (Z : Int) ≠ 0 := by omega
 have hz4 : ¬ Z = 0 := by omega
 rw [Int.toNat_natCast, Int.toNat_natCast, ← hq] at hb
 have hbe : ((bs.length : Int) != q) = false := by rw [hb]; simp
 have hbe2 : decide ((bs.length : Int) = q) = true := decide_eq_true hb
 have hbn : bs.length ≤ 4096 := by omega
 obtain ⟨k0_, k3_, _⟩ := mayB_iff.1 hm
 clear hq hb
 clear hs1 hs2 hq0 hqb
 obtain ⟨W0, hW, hR, hB⟩ := box1 w 26 #[.int .i64 k, .int .i64 Z, .int .i64 m, .int .i64 o, .int .i64 N, .slice A bs.length c]
 obtain ⟨g, hg⟩ : ∃ g, g = w.heap.size := ⟨_, rfl⟩
 have hW' := Lib.hid (And.intro hW hg)
 rw [← hg] at hR
 have hgw : w.heap.size ≤ g := by omega
 clear hW hg
 have hX := hR
 replace hx := hx.below hB
 obtain ⟨c1_hX_0, c1_hX_1, c1_hX_2, c1_hX_3, c1_hX_4, c1_hX_5⟩ := hX.cells6t
 go_enter Tryz.func13, Tryz.ntmps13
 go_upto_region 1 with fail
 rw [← hW'.out.1, ← hW'.out.2]
 refine wp_region_noPanic ?_
 refine wp_region_held_drew (S := fun w' => w'.cell? ⟨g, 0, none⟩ = some (.int .i64 k) ∧ w'.cell? ⟨g, 1, none⟩ = some (.int .i64 Z) ∧ w'.cell? ⟨g, 2, none⟩ = some (.int .i64 m) ∧ w'.cell? ⟨g, 3, none⟩ = some (.int .i64 o) ∧ w'.cell? ⟨g, 4, none⟩ = some (.int .i64 N) ∧ w'.cell? ⟨g, 5, none⟩ = some (.slice A bs.length c)) (by kernel_rfl) ?_ (fun hHeld => ?_)
 · exact ⟨(hX.below (by first | assumption | exact bdrew _ | exact Below.refl _ _) hX.lt).cell 0, (hX.below (by first | assumption | exact bdrew _ | exact Below.refl _ _) hX.lt).cell 1, (hX.below (by first | assumption | exact bdrew _ | exact Below.refl _ _) hX.lt).cell 2, (hX.below (by first | assumption | exact bdrew _ | exact Below.refl _ _) hX.lt).cell 3, (hX.below (by first | assumption | exact bdrew _ | exact Below.refl _ _) hX.lt).cell 4, (hX.below (by first | assumption | exact bdrew _ | exact Below.refl _ _) hX.lt).cell 5⟩
 refine tkH 0 rfl (v := ?b5_v0) ?b5_hy0 ?b5_rest0
 case b5_hy0 => (intro w hSw; (try dsimp only at hSw); go_simp; try (with_reducible rfl))
 try simp only [Act.put, lay1, lay3, lay4, lay5, lay6]
 refine tkH 1 rfl (v := ?b5_v1) ?b5_hy1 ?b5_rest1
 case b5_hy1 => (intro w hSw; (try dsimp only at hSw); go_simp; try (with_reducible rfl))
 try simp only [Act.put, lay1, lay2, lay3, lay4, lay5, lay6]
 refine wpAnyH_ready (rs := [2]) (by kernel_rfl) (by simp) ?_
 refine AllReadyH.cons rfl (fun K hK => ?_) AllReadyH.nil
 go_simp
 refine (hM _).mono ?_
 rintro e w1 ⟨rfl, b1⟩
 have b1 := bstep (bdrew W0) b1
 go_wp2_with fail
 refine hK.out _ _ ?_ (fun hHeld => ?_)
 · exact ⟨(hX.below (by first | assumption | exact bdrew _ | exact Below.refl _ _) hX.lt).cell 0, (hX.below (by first | assumption | exact bdrew _ | exact Below.refl _ _) hX.lt).cell 1, (hX.below (by first | assumption | exact bdrew _ | exact Below.refl _ _) hX.lt).cell 2, (hX.below (by first | assumption | exact bdrew _ | exact Below.refl _ _) hX.lt).cell 3, (hX.below (by first | assumption | exact bdrew _ | exact Below.refl _ _) hX.lt).cell 4, (hX.below (by first | assumption | exact bdrew _ | exact Below.refl _ _) hX.lt).cell 5⟩
 clear hK K
 refine tkH 3 rfl (v := ?b5_v3) ?b5_hy3 ?b5_rest3
 case b5_hy3 => (intro w hSw; (try dsimp only at hSw); go_simp; try (with_reducible rfl))
 refine tkH 4 rfl (v := ?b5_v4) ?b5_hy4 ?b5_rest4
 case b5_hy4 => (intro w hSw; (try dsimp only at hSw); go_simp; try (with_reducible rfl))
 refine tkH 5 rfl (v := ?b5_v5) ?b5_hy5 ?b5_rest5
 case b5_hy5 => (intro w hSw; (try dsimp only at hSw); go_simp; try (with_reducible rfl))
 refine tkH 6 rfl (v := ?b5_v6) ?b5_hy6 ?b5_rest6
 case b5_hy6 => (intro w hSw; (try dsimp only at hSw); go_simp; try (with_reducible rfl))
 refine tkH 7 rfl (v := ?b5_v7) ?b5_hy7 ?b5_rest7
 case b5_hy7 => (intro w hSw; (try dsimp only at hSw); go_simp; try (with_reducible rfl))
 refine tkH 8 rfl (v := ?b5_v8) ?b5_hy8 ?b5_rest8
 case b5_hy8 => (intro w hSw; (try dsimp only at hSw); go_simp; try (with_reducible rfl))
 refine tkH 9 rfl (v := ?b5_v9) ?b5_hy9 ?b5_rest9
 case b5_hy9 => (intro w hSw; (try dsimp only at hSw); go_simp; try (with_reducible rfl))
 refine tkH 10 rfl (v := ?b5_v10) ?b5_hy10 ?b5_rest10
 case b5_hy10 => (intro w hSw; (try dsimp only at hSw); go_simp; try (with_reducible rfl))
 refine tkH 11 rfl (v := ?b5_v11) ?b5_hy11 ?b5_rest11
 case b5_hy11 => (intro w hSw; (try dsimp only at hSw); go_simp; try (with_reducible rfl))
 refine tkH 12 rfl (v := ?b5_v12) ?b5_hy12 ?b5_rest12
 case b5_hy12 => (intro w hSw; (try dsimp only at hSw); go_simp; try (with_reducible rfl))
 refine tkH 13 rfl (v := ?b5_v13) ?b5_hy13 ?b5_rest13
 case b5_hy13 => (intro w hSw; (try dsimp only at hSw); go_simp; try (with_reducible rfl))
 refine tkH 14 rfl (v := ?b5_v14) ?b5_hy14 ?b5_rest14
 case b5_hy14 => (intro w hSw; (try dsimp only at hSw); go_simp; try (with_reducible rfl))
 refine tkH 15 rfl (v := ?b5_v15) ?b5_hy15 ?b5_rest15
 case b5_hy15 => (intro w hSw; (try dsimp only at hSw); go_simp; try (with_reducible rfl))
 refine tkH 16 rfl (v := ?b5_v16) ?b5_hy16 ?b5_rest16
 case b5_hy16 => (intro w hSw; (try dsimp only at hSw); go_simp; try (with_reducible rfl))
 refine tkH 17 rfl (v := ?b5_v17) ?b5_hy17 ?b5_rest17
 case b5_hy17 => (intro w hSw; (try dsimp only at hSw); go_simp; try (with_reducible rfl))
 refine tkH 18 rfl (v := ?b5_v18) ?b5_hy18 ?b5_rest18
 case b5_hy18 => (intro w hSw; (try dsimp only at hSw); go_simp; try (with_reducible rfl))
 refine tkH 19 rfl (v := ?b5_v19) ?b5_hy19 ?b5_rest19
 case b5_hy19 => (intro w hSw; (try dsimp only at hSw); go_simp; try (with_reducible rfl))
 refine tkH 20 rfl (v := ?b5_v20) ?b5_hy20 ?b5_rest20
 case b5_hy20 => (intro w hSw; (try dsimp only at hSw); go_simp; try (with_reducible rfl))
 refine tkH 21 rfl (v := ?b5_v21) ?b5_hy21 ?b5_rest21
 case b5_hy21 => (intro w hSw; (try dsimp only at hSw); go_simp; try (with_reducible rfl))
 refine tkH 22 rfl (v := ?b5_v22) ?b5_hy22 ?b5_rest22
 case b5_hy22 => (intro w hSw; (try dsimp only at hSw); go_simp; try (with_reducible rfl))
 refine tkH 23 rfl (v := ?b5_v23) ?b5_hy23 ?b5_rest23
 case b5_hy23 => (intro w hSw; (try dsimp only at hSw); go_simp; try (with_reducible rfl))
 refine tkH 24 rfl (v := ?b5_v24) ?b5_hy24 ?b5_rest24
 case b5_hy24 => (intro w hSw; (try dsimp only at hSw); go_simp; try (with_reducible rfl))
 refine tkH 25 rfl (v := ?b5_v25) ?b5_hy25 ?b5_rest25
 case b5_hy25 => (intro w hSw; (try dsimp only at hSw); go_simp; try (with_reducible rfl))
 refine tkH 26 rfl (v := ?b5_v26) ?b5_hy26 ?b5_rest26
 case b5_hy26 => (intro w hSw; (try dsimp only at hSw); go_simp; try (with_reducible rfl))
 refine tkH 27 rfl (v := ?b5_v27) ?b5_hy27 ?b5_rest27
 case b5_hy27 => (intro w hSw; (try dsimp only at hSw); go_simp; try (with_reducible rfl))
 refine tkH 28 rfl (v := ?b5_v28) ?b5_hy28 ?b5_rest28
 case b5_hy28 => (intro w hSw; (try dsimp only at hSw); go_simp; try (with_reducible rfl))
 try simp only [Act.put, lay1, lay2, lay3, lay4, lay5, lay6]
 try dsimp only
 refine tkH 29 rfl (v := ?b5_v29) ?b5_hy29 ?b5_rest29
 case b5_hy29 => (intro w hSw; (try dsimp only at hSw); go_simp; try (with_reducible rfl))
 try simp only [Act.put, lay1, lay2, lay3, lay4, lay5, lay6]
 try dsimp only
 refine tkH 30 rfl (v := ?b5_v30) ?b5_hy30 ?b5_rest30
 case b5_hy30 => (intro w hSw; (try dsimp only at hSw); go_simp; try (with_reducible rfl))
 try simp only [Act.put, lay1, lay2, lay3, lay4, lay5, lay6]
 try dsimp only
 try simp only [Act.put, lay1, lay2, lay3, lay4, lay5, lay6]
 refine wpAnyH_done (by kernel_rfl) ?_ _
 refine NoPanic.normal ?_
 replace hx := hx.below b1
 replace hX := hX.below b1 hX.lt
 replace hB := hB.trans (b1.mono hB.size)
 clear c1_hX_0 c1_hX_1 c1_hX_2 c1_hX_3 c1_hX_4 c1_hX_5
 obtain ⟨c2_hX_0, c2_hX_1, c2_hX_2, c2_hX_3, c2_hX_4, c2_hX_5⟩ := hX.cells6t
 have c5 := hX.cell 5
 go_wp2
 clear c5 c2_hX_0 c2_hX_1 c2_hX_2 c2_hX_3 c2_hX_4 c2_hX_5
 go_loopw [3] (fun i wr => ∃ j : Nat, i = .int .i64 j ∧ j ≤ bs.length ∧ Hid (okTo k Z m o N bs j = true) ∧ Below w1.heap.size w1 wr) (fun i _ => bs.length - (intOf i).toNat)
 case atStart => exact ⟨0, rfl, by omega, Lib.hid rfl, Below.refl _ _⟩
 case round =>
   obtain ⟨j, rfl, hj, hok, bl⟩ := hrel
   replace hx := hx.below bl
   replace hX := hX.below bl hX.lt
   replace hB := hB.trans (bl.mono hB.size)
   obtain ⟨c3_hX_0, c3_hX_1, c3_hX_2, c3_hX_3, c3_hX_4, c3_hX_5⟩ := hX.cells6t
   by_cases hlt : j < bs.length
   · obtain ⟨ad, d1, k1, sc, cs, wd, a1, a2, e1, _, hat, x0, x1, x2, x3, hy, hi1⟩ := hx.at_ hlt
     obtain ⟨rfl, _, rfl⟩ := Value.slice.inj e1
     obtain ⟨P1, Q1, rfl, _, _⟩ := id hy.form
     obtain ⟨P2, Q2, rfl, _, _⟩ := id hi1.form
     have hg : bs[j]?.getD (0, 0, [], []) = (k1, sc, cs, wd) := by rw [hat]; rfl
     have HS := Lib.hid (show okTo k Z m o N bs (j + 1) = okAt k Z m o N (k1, sc, cs, wd) j by rw [okTo_succ, hok.out, Bool.true_and, hg])
     obtain ⟨_, _, hwi, l1, l2⟩ := hlb _ (mem_at hat)
     simp only at hwi l1 l2
     have i0 : (0 : Int) ≤ (j : Int) := by omega
     have i1 : (j : Int) < (bs.length : Int) := by omega
     have hjn : j ≤ 4096 := by omega
     obtain ⟨p, hp⟩ : ∃ p : Nat, p = j * Z := ⟨_, rfl⟩
     have hpb : p ≤ 16777216 := by rw [hp]; exact Nat.le_trans (Nat.mul_le_mul hjn z2) (by decide)
     have hp1 : IntKind.i64.wrap ((j : Int) * (Z : Int)) = (p : Int) := by rw [← Int.natCast_mul, ← hp, IntKind.wrap_i64]; omega
     obtain ⟨d, hd⟩ : ∃ d : Int, d = (N : Int) - (p : Int) := ⟨_, rfl⟩
     have hp2 : IntKind.i64.wrap ((N : Int) - (p : Int)) = d := by rw [hd, IntKind.wrap_i64]; omega
     have hR := fun v w h => rbright_any v k1 sc cs wd w h (by omega) l2
     have hLn := fun v w h => rblen_any v k1 sc cs wd w h (by omega) l2
     obtain ⟨ln, hln⟩ : ∃ ln : Int, ln = (cs.length : Int) + wd.length := ⟨_, rfl⟩
     rw [← hln] at hLn
     have HOK := Lib.hid (show okAt k Z m o N (k1, sc, cs, wd) j = (blkR k1 sc cs wd && (decide (k1 = if staysB m o N (if k1 = 4 then greatW wd else sc) = true then 4 else k) && decide (ln = min (Z : Int) d))) by
       unfold okAt bkR bkLen
       simp only
       rw [hln, hd, hp]; push_cast; rfl)
     have hbk : IsBk wr (.agg #[.int .i64 k1, .int .i64 sc, .slice P1 cs.length Q1, .slice P2 wd.length Q2]) k1 sc cs wd := ⟨_, _, rfl, hy, hi1⟩
     clear hg hat hjn hp hpb hd hln hy
     have hBr := Below.refl wr.heap.size wr
     obtain ⟨V1, eV, hY, bV1⟩ := box1 wr 103 #[.int .i64 k1, .int .i64 sc, .slice P1 cs.length Q1, .slice P2 wd.length Q2]
     obtain ⟨X1, eX⟩ : ∃ X, X = wr.heap.size := ⟨_, rfl⟩
     rw [← eX] at hY
     have EV1 := Lib.hid (And.intro eV eX)
     clear eV eX
     go_upto_region 7 with fail
     rw [← EV1.out.1, ← EV1.out.2]
     replace hx := hx.below bV1
     replace hX := hX.below bV1 hX.lt
     replace hbk := hbk.below bV1
     replace hi1 := hi1.below bV1
     replace hB := hB.trans (bV1.mono hB.size)
     clear c3_hX_0 c3_hX_1 c3_hX_2 c3_hX_3 c3_hX_4 c3_hX_5
     obtain ⟨c4_hX_0, c4_hX_1, c4_hX_2, c4_hX_3, c4_hX_4, c4_hX_5⟩ := hX.cells6t
     clear c4_hX_0 c4_hX_1 c4_hX_2 c4_hX_3 c4_hX_4 c4_hX_5
     obtain ⟨c5_hX_0, c5_hX_1, c5_hX_2, c5_hX_3, c5_hX_4, c5_hX_5⟩ := hX.cells6t
     obtain ⟨c5_hY_0, c5_hY_1, c5_hY_2, c5_hY_3⟩ := hY.quad
     replace hBr := bstep hBr bV1
     clear c5_hX_0 c5_hX_1 c5_hX_2 c5_hX_3 c5_hX_4 c5_hX_5 c5_hY_0 c5_hY_1 c5_hY_2 c5_hY_3
     cases hbr : blkR k1 sc cs wd
     · rw [hbr] at hR
       have hres : okTo k Z m o N bs (j + 1) = false := by rw [HS.out, HOK.out, hbr]; rfl
       have HRES := Lib.hid (okTo_le hres (show j + 1 ≤ bs.length by omega))
       clear hres hbr
       refine wp_region_noPanic ?_
       refine wp_region_held_drew (S := fun w' => w'.cell? ⟨X1, 0, none⟩ = some (.int .i64 k1) ∧ w'.cell? ⟨X1, 1, none⟩ = some (.int .i64 sc) ∧ w'.cell? ⟨X1, 2, none⟩ = some (.slice P1 cs.length Q1) ∧ w'.cell? ⟨X1, 3, none⟩ = some (.slice P2 wd.length Q2) ∧ w'.cell? ⟨g, 0, none⟩ = some (.int .i64 k) ∧ w'.cell? ⟨g, 1, none⟩ = some (.int .i64 Z) ∧ w'.cell? ⟨g, 2, none⟩ = some (.int .i64 m) ∧ w'.cell? ⟨g, 3, none⟩ = some (.int .i64 o) ∧ w'.cell? ⟨g, 4, none⟩ = some (.int .i64 N)) (by kernel_rfl) ?_ (fun hHeld => ?_)
       · exact ⟨(hY.below (by first | assumption | exact bdrew _) hY.lt).cell 0, (hY.below (by first | assumption | exact bdrew _) hY.lt).cell 1, (hY.below (by first | assumption | exact bdrew _) hY.lt).cell 2, (hY.below (by first | assumption | exact bdrew _) hY.lt).cell 3, (hX.below (by first | assumption | exact bdrew _) hX.lt).cell 0, (hX.below (by first | assumption | exact bdrew _) hX.lt).cell 1, (hX.below (by first | assumption | exact bdrew _) hX.lt).cell 2, (hX.below (by first | assumption | exact bdrew _) hX.lt).cell 3, (hX.below (by first | assumption | exact bdrew _) hX.lt).cell 4⟩
       refine tkH 0 rfl (v := ?b6_v0) ?b6_hy0 ?b6_rest0
       case b6_hy0 => (intro w hSw; (try dsimp only at hSw); go_simp; try (with_reducible rfl))
       try simp only [Act.put, lay1, lay3, lay4, lay5, lay6]
       refine wpAnyH_ready (rs := [1]) (by kernel_rfl) (by simp) ?_
       refine AllReadyH.cons rfl (fun K hK => ?_) AllReadyH.nil
       go_simp
       refine (hR _ _ (hbk.below (bdrew _))).mono ?_
       rintro e u1 ⟨rfl, d1_⟩
       have d1_ := bstep (bdrew V1) d1_
       go_wp2_with fail
       refine hK.out _ _ ?_ (fun hHeld => ?_)
       · exact ⟨(hY.below (by first | assumption | exact bdrew _) hY.lt).cell 0, (hY.below (by first | assumption | exact bdrew _) hY.lt).cell 1, (hY.below (by first | assumption | exact bdrew _) hY.lt).cell 2, (hY.below (by first | assumption | exact bdrew _) hY.lt).cell 3, (hX.below (by first | assumption | exact bdrew _) hX.lt).cell 0, (hX.below (by first | assumption | exact bdrew _) hX.lt).cell 1, (hX.below (by first | assumption | exact bdrew _) hX.lt).cell 2, (hX.below (by first | assumption | exact bdrew _) hX.lt).cell 3, (hX.below (by first | assumption | exact bdrew _) hX.lt).cell 4⟩
       clear hK K
       refine tkH 2 rfl (v := ?b6_v2) ?b6_hy2 ?b6_rest2
       case b6_hy2 => (intro w hSw; (try dsimp only at hSw); go_simp; try (with_reducible rfl))
       refine tkH 3 rfl (v := ?b6_v3) ?b6_hy3 ?b6_rest3
       case b6_hy3 => (intro w hSw; (try dsimp only at hSw); go_simp; try (with_reducible rfl))
       refine tkS 4 rfl ?_
       refine tkS 5 rfl ?_
       refine tkS 6 rfl ?_
       refine tkS 7 rfl ?_
       refine tkS 8 rfl ?_
       refine tkS 9 rfl ?_
       refine tkS 10 rfl ?_
       refine tkS 11 rfl ?_
       refine tkS 12 rfl ?_
       refine tkS 13 rfl ?_
       refine tkS 14 rfl ?_
       refine tkS 15 rfl ?_
       refine tkS 16 rfl ?_
       refine tkS 17 rfl ?_
       try simp only [Act.put, lay1, lay2, lay3, lay4, lay5, lay6]
       try dsimp only
       refine tkS 18 rfl ?_
       try simp only [Act.put, lay1, lay2, lay3, lay4, lay5, lay6]
       try dsimp only
       refine tkH 19 rfl (v := ?b6_v19) ?b6_hy19 ?b6_rest19
       case b6_hy19 => (intro w hSw; (try dsimp only at hSw); go_simp; try (with_reducible rfl))
       try simp only [Act.put, lay1, lay2, lay3, lay4, lay5, lay6]
       try dsimp only
       try simp only [Act.put, lay1, lay2, lay3, lay4, lay5, lay6]
       refine wpAnyH_done (by kernel_rfl) ?_ _
       refine NoPanic.normal ?_
       replace hx := hx.below d1_
       replace hX := hX.below d1_ hX.lt
       replace hbk := hbk.below d1_
       replace hi1 := hi1.below d1_
       replace hY := hY.below d1_ hY.lt
       replace hB := hB.trans (d1_.mono hB.size)
       obtain ⟨c6_hX_0, c6_hX_1, c6_hX_2, c6_hX_3, c6_hX_4, c6_hX_5⟩ := hX.cells6t
       obtain ⟨c6_hY_0, c6_hY_1, c6_hY_2, c6_hY_3⟩ := hY.quad
       go_wp2
       go_ret
       exact ⟨congrArg (fun b => Ending.returned (Value.bool b)) HRES.out.symm, hB⟩
     · rw [hbr] at hR
       by_cases hle : ln = min (Z : Int) d
       · have h2 : (ln != min (Z : Int) d) = false := by rw [hle]; simp
         have h2' : decide (ln = min (Z : Int) d) = true := decide_eq_true hle
         have HK2 := Lib.hid (show okTo k Z m o N bs (j + 1) = decide (k1 = if staysB m o N (if k1 = 4 then greatW wd else sc) = true then 4 else k) by rw [HS.out, HOK.out, hbr, h2']; simp)
         clear hle
         refine wp_region_noPanic ?_
         refine wp_region_held_drew (S := fun w' => w'.cell? ⟨X1, 0, none⟩ = some (.int .i64 k1) ∧ w'.cell? ⟨X1, 1, none⟩ = some (.int .i64 sc) ∧ w'.cell? ⟨X1, 2, none⟩ = some (.slice P1 cs.length Q1) ∧ w'.cell? ⟨X1, 3, none⟩ = some (.slice P2 wd.length Q2) ∧ w'.cell? ⟨g, 0, none⟩ = some (.int .i64 k) ∧ w'.cell? ⟨g, 1, none⟩ = some (.int .i64 Z) ∧ w'.cell? ⟨g, 2, none⟩ = some (.int .i64 m) ∧ w'.cell? ⟨g, 3, none⟩ = some (.int .i64 o) ∧ w'.cell? ⟨g, 4, none⟩ = some (.int .i64 N)) (by kernel_rfl) ?_ (fun hHeld => ?_)
         · exact ⟨(hY.below (by first | assumption | exact bdrew _) hY.lt).cell 0, (hY.below (by first | assumption | exact bdrew _) hY.lt).cell 1, (hY.below (by first | assumption | exact bdrew _) hY.lt).cell 2, (hY.below (by first | assumption | exact bdrew _) hY.lt).cell 3, (hX.below (by first | assumption | exact bdrew _) hX.lt).cell 0, (hX.below (by first | assumption | exact bdrew _) hX.lt).cell 1, (hX.below (by first | assumption | exact bdrew _) hX.lt).cell 2, (hX.below (by first | assumption | exact bdrew _) hX.lt).cell 3, (hX.below (by first | assumption | exact bdrew _) hX.lt).cell 4⟩
         refine tkH 0 rfl (v := ?b7_v0) ?b7_hy0 ?b7_rest0
         case b7_hy0 => (intro w hSw; (try dsimp only at hSw); go_simp; try (with_reducible rfl))
         try simp only [Act.put, lay1, lay3, lay4, lay5, lay6]
         refine wpAnyH_ready (rs := [1]) (by kernel_rfl) (by simp) ?_
         refine AllReadyH.cons rfl (fun K hK => ?_) AllReadyH.nil
         go_simp
         refine (hR _ _ (hbk.below (bdrew _))).mono ?_
         rintro e u1 ⟨rfl, d1_⟩
         have d1_ := bstep (bdrew V1) d1_
         go_wp2_with fail
         refine hK.out _ _ ?_ (fun hHeld => ?_)
         · exact ⟨(hY.below (by first | assumption | exact bdrew _) hY.lt).cell 0, (hY.below (by first | assumption | exact bdrew _) hY.lt).cell 1, (hY.below (by first | assumption | exact bdrew _) hY.lt).cell 2, (hY.below (by first | assumption | exact bdrew _) hY.lt).cell 3, (hX.below (by first | assumption | exact bdrew _) hX.lt).cell 0, (hX.below (by first | assumption | exact bdrew _) hX.lt).cell 1, (hX.below (by first | assumption | exact bdrew _) hX.lt).cell 2, (hX.below (by first | assumption | exact bdrew _) hX.lt).cell 3, (hX.below (by first | assumption | exact bdrew _) hX.lt).cell 4⟩
         clear hK K
         refine tkH 2 rfl (v := ?b7_v2) ?b7_hy2 ?b7_rest2
         case b7_hy2 => (intro w hSw; (try dsimp only at hSw); go_simp; try (with_reducible rfl))
         refine tkH 3 rfl (v := ?b7_v3) ?b7_hy3 ?b7_rest3
         case b7_hy3 => (intro w hSw; (try dsimp only at hSw); go_simp; try (with_reducible rfl))
         refine tkH 4 rfl (v := ?b7_v4) ?b7_hy4 ?b7_rest4
         case b7_hy4 => (intro w hSw; (try dsimp only at hSw); go_simp; try (with_reducible rfl))
         refine tkH 6 rfl (v := ?b7_v6) ?b7_hy6 ?b7_rest6
         case b7_hy6 => (intro w hSw; (try dsimp only at hSw); go_simp; try (with_reducible rfl))
         refine tkH 7 rfl (v := ?b7_v7) ?b7_hy7 ?b7_rest7
         case b7_hy7 => (intro w hSw; (try dsimp only at hSw); go_simp; try (with_reducible rfl))
         refine tkH 8 rfl (v := ?b7_v8) ?b7_hy8 ?b7_rest8
         case b7_hy8 => (intro w hSw; (try dsimp only at hSw); go_simp; try (with_reducible rfl))
         refine tkH 9 rfl (v := ?b7_v9) ?b7_hy9 ?b7_rest9
         case b7_hy9 => (intro w hSw; (try dsimp only at hSw); go_simp; try (with_reducible rfl))
         refine tkH 10 rfl (v := ?b7_v10) ?b7_hy10 ?b7_rest10
         case b7_hy10 => (intro w hSw; (try dsimp only at hSw); go_simp; try (with_reducible rfl))
         refine tkH 11 rfl (v := ?b7_v11) ?b7_hy11 ?b7_rest11
         case b7_hy11 => (intro w hSw; (try dsimp only at hSw); go_simp; try (with_reducible rfl))
         refine tkH 12 rfl (v := ?b7_v12) ?b7_hy12 ?b7_rest12
         case b7_hy12 => (intro w hSw; (try dsimp only at hSw); go_simp; try (with_reducible rfl))
         refine tkH 13 rfl (v := ?b7_v13) ?b7_hy13 ?b7_rest13
         case b7_hy13 => (intro w hSw; (try dsimp only at hSw); go_simp; try (with_reducible rfl))
         refine tkH 14 rfl (v := ?b7_v14) ?b7_hy14 ?b7_rest14
         case b7_hy14 => (intro w hSw; (try dsimp only at hSw); go_simp; try (with_reducible rfl))
         refine tkH 15 rfl (v := ?b7_v15) ?b7_hy15 ?b7_rest15
         case b7_hy15 => (intro w hSw; (try dsimp only at hSw); go_simp; try (with_reducible rfl))
         refine tkH 16 rfl (v := ?b7_v16) ?b7_hy16 ?b7_rest16
         case b7_hy16 => (intro w hSw; (try dsimp only at hSw); go_simp; try (with_reducible rfl))
         refine tkH 17 rfl (v := ?b7_v17) ?b7_hy17 ?b7_rest17
         case b7_hy17 => (intro w hSw; (try dsimp only at hSw); go_simp; try (with_reducible rfl))
         try simp only [Act.put, lay1, lay2, lay3, lay4, lay5, lay6]
         refine wpAnyH_ready (rs := [5]) (by kernel_rfl) (by simp) ?_
         refine AllReadyH.cons rfl (fun K hK => ?_) AllReadyH.nil
         go_simp
         refine (hLn _ _ (hbk.below d1_)).mono ?_
         rintro e u2 ⟨rfl, d2_⟩
         have d2_ := bstep d1_ d2_
         go_wp2_with fail
         refine hK.out _ _ ?_ (fun hHeld => ?_)
         · exact ⟨(hY.below (by first | assumption | exact bdrew _) hY.lt).cell 0, (hY.below (by first | assumption | exact bdrew _) hY.lt).cell 1, (hY.below (by first | assumption | exact bdrew _) hY.lt).cell 2, (hY.below (by first | assumption | exact bdrew _) hY.lt).cell 3, (hX.below (by first | assumption | exact bdrew _) hX.lt).cell 0, (hX.below (by first | assumption | exact bdrew _) hX.lt).cell 1, (hX.below (by first | assumption | exact bdrew _) hX.lt).cell 2, (hX.below (by first | assumption | exact bdrew _) hX.lt).cell 3, (hX.below (by first | assumption | exact bdrew _) hX.lt).cell 4⟩
         clear hK K
         try simp only [Act.put, lay1, lay2, lay3, lay4, lay5, lay6]
         try dsimp only
         refine tkH 18 rfl (v := ?b7_v18) ?b7_hy18 ?b7_rest18
         case b7_hy18 => (intro w hSw; (try dsimp only at hSw); go_simp; try (with_reducible rfl))
         try simp only [Act.put, lay1, lay2, lay3, lay4, lay5, lay6]
         try dsimp only
         refine tkH 19 rfl (v := ?b7_v19) ?b7_hy19 ?b7_rest19
         case b7_hy19 => (intro w hSw; (try dsimp only at hSw); go_simp; try (with_reducible rfl))
         try simp only [Act.put, lay1, lay2, lay3, lay4, lay5, lay6]
         try dsimp only
         try simp only [Act.put, lay1, lay2, lay3, lay4, lay5, lay6]
         refine wpAnyH_done (by kernel_rfl) ?_ _
         refine NoPanic.normal ?_
         replace hx := hx.below d2_
         replace hX := hX.below d2_ hX.lt
         replace hbk := hbk.below d2_
         replace hi1 := hi1.below d2_
         replace hY := hY.below d2_ hY.lt
         replace hB := hB.trans (d2_.mono hB.size)
         obtain ⟨c6_hX_0, c6_hX_1, c6_hX_2, c6_hX_3, c6_hX_4, c6_hX_5⟩ := hX.cells6t
         obtain ⟨c6_hY_0, c6_hY_1, c6_hY_2, c6_hY_3⟩ := hY.quad
         replace hBr := bstep hBr d2_
         clear c6_hX_0 c6_hX_1 c6_hX_2 c6_hX_3 c6_hX_4 c6_hX_5 c6_hY_0 c6_hY_1 c6_hY_2 c6_hY_3
         obtain ⟨c7_hX_0, c7_hX_1, c7_hX_2, c7_hX_3, c7_hX_4, c7_hX_5⟩ := hX.cells6t
         obtain ⟨c7_hY_0, c7_hY_1, c7_hY_2, c7_hY_3⟩ := hY.quad
         by_cases hk4 : k1 = 4
         · subst hk4
           have hgw := greatW_eq hwi (blkR_wide hbr)
           have hG := fun w h => rgreat_any (.slice P2 wd.length Q2) wd w h (fun x hx => ⟨hwi x hx, blkR_wide hbr x hx⟩)
           have HK3 := Lib.hid (show okTo k Z m o N bs (j + 1) = staysB m o N (great wd) by
             rw [HK2.out, if_pos rfl, hgw]
             cases staysB m o N (great wd)
             · rw [if_neg (by decide)]; exact decide_eq_false (by omega)
             · rw [if_pos rfl]; rfl)
           have hSt := fun w => rwide14_any k Z m o N (great wd) w
           clear hgw hbr
           generalize staysB m o (N : Int) (great wd) = sb at *
           generalize great wd = gw at *
           go_upto_region 10 with fail
           rcases sb with _ | _
           · refine wp_region_noPanic ?_
             refine wp_region_held_drew (S := fun w' => w'.cell? ⟨X1, 0, none⟩ = some (.int .i64 4) ∧ w'.cell? ⟨X1, 1, none⟩ = some (.int .i64 sc) ∧ w'.cell? ⟨X1, 2, none⟩ = some (.slice P1 cs.length Q1) ∧ w'.cell? ⟨X1, 3, none⟩ = some (.slice P2 wd.length Q2) ∧ w'.cell? ⟨g, 0, none⟩ = some (.int .i64 k) ∧ w'.cell? ⟨g, 1, none⟩ = some (.int .i64 Z) ∧ w'.cell? ⟨g, 2, none⟩ = some (.int .i64 m) ∧ w'.cell? ⟨g, 3, none⟩ = some (.int .i64 o) ∧ w'.cell? ⟨g, 4, none⟩ = some (.int .i64 N)) (by kernel_rfl) ?_ (fun hHeld => ?_)
             · exact ⟨(hY.below (by first | assumption | exact bdrew _) hY.lt).cell 0, (hY.below (by first | assumption | exact bdrew _) hY.lt).cell 1, (hY.below (by first | assumption | exact bdrew _) hY.lt).cell 2, (hY.below (by first | assumption | exact bdrew _) hY.lt).cell 3, (hX.below (by first | assumption | exact bdrew _) hX.lt).cell 0, (hX.below (by first | assumption | exact bdrew _) hX.lt).cell 1, (hX.below (by first | assumption | exact bdrew _) hX.lt).cell 2, (hX.below (by first | assumption | exact bdrew _) hX.lt).cell 3, (hX.below (by first | assumption | exact bdrew _) hX.lt).cell 4⟩
             refine tkH 0 rfl (v := ?b8_v0) ?b8_hy0 ?b8_rest0
             case b8_hy0 => (intro w hSw; (try dsimp only at hSw); go_simp; try (with_reducible rfl))
             try simp only [Act.put, lay1, lay3, lay4, lay5, lay6]
             refine tkH 1 rfl (v := ?b8_v1) ?b8_hy1 ?b8_rest1
             case b8_hy1 => (intro w hSw; (try dsimp only at hSw); go_simp; try (with_reducible rfl))
             refine tkH 2 rfl (v := ?b8_v2) ?b8_hy2 ?b8_rest2
             case b8_hy2 => (intro w hSw; (try dsimp only at hSw); go_simp; try (with_reducible rfl))
             refine tkH 3 rfl (v := ?b8_v3) ?b8_hy3 ?b8_rest3
             case b8_hy3 => (intro w hSw; (try dsimp only at hSw); go_simp; try (with_reducible rfl))
             refine tkH 4 rfl (v := ?b8_v4) ?b8_hy4 ?b8_rest4
             case b8_hy4 => (intro w hSw; (try dsimp only at hSw); go_simp; try (with_reducible rfl))
             refine tkH 5 rfl (v := ?b8_v5) ?b8_hy5 ?b8_rest5
             case b8_hy5 => (intro w hSw; (try dsimp only at hSw); go_simp; try (with_reducible rfl))
             try simp only [Act.put, lay1, lay2, lay3, lay4, lay5, lay6]
             refine wpAnyH_ready (rs := [6]) (by kernel_rfl) (by simp) ?_
             refine AllReadyH.cons rfl (fun K hK => ?_) AllReadyH.nil
             go_simp
             refine (hG _ (hi1.below (bdrew _))).mono ?_
             rintro e u3 ⟨rfl, n3, hn3⟩
             have d3_ : Below u2.heap.size u2 u3 := by rw [hn3]; exact below_drewN (bdrew _) n3
             clear hn3
             go_wp2_with fail
             refine hK.out _ _ ?_ (fun hHeld => ?_)
             · exact ⟨(hY.below (by first | assumption | exact bdrew _) hY.lt).cell 0, (hY.below (by first | assumption | exact bdrew _) hY.lt).cell 1, (hY.below (by first | assumption | exact bdrew _) hY.lt).cell 2, (hY.below (by first | assumption | exact bdrew _) hY.lt).cell 3, (hX.below (by first | assumption | exact bdrew _) hX.lt).cell 0, (hX.below (by first | assumption | exact bdrew _) hX.lt).cell 1, (hX.below (by first | assumption | exact bdrew _) hX.lt).cell 2, (hX.below (by first | assumption | exact bdrew _) hX.lt).cell 3, (hX.below (by first | assumption | exact bdrew _) hX.lt).cell 4⟩
             clear hK K
             try simp only [Act.put, lay1, lay2, lay3, lay4, lay5, lay6]
             try dsimp only
             try simp only [Act.put, lay1, lay2, lay3, lay4, lay5, lay6]
             refine wpAnyH_ready (rs := [7]) (by kernel_rfl) (by simp) ?_
             refine AllReadyH.cons rfl (fun K hK => ?_) AllReadyH.nil
             go_simp
             refine (hSt _).mono ?_
             rintro e u4 ⟨rfl, d4_⟩
             have d4_ := bstep d3_ d4_
             go_wp2_with fail
             refine hK.out _ _ ?_ (fun hHeld => ?_)
             · exact ⟨(hY.below (by first | assumption | exact bdrew _) hY.lt).cell 0, (hY.below (by first | assumption | exact bdrew _) hY.lt).cell 1, (hY.below (by first | assumption | exact bdrew _) hY.lt).cell 2, (hY.below (by first | assumption | exact bdrew _) hY.lt).cell 3, (hX.below (by first | assumption | exact bdrew _) hX.lt).cell 0, (hX.below (by first | assumption | exact bdrew _) hX.lt).cell 1, (hX.below (by first | assumption | exact bdrew _) hX.lt).cell 2, (hX.below (by first | assumption | exact bdrew _) hX.lt).cell 3, (hX.below (by first | assumption | exact bdrew _) hX.lt).cell 4⟩
             clear hK K
             try simp only [Act.put, lay1, lay2, lay3, lay4, lay5, lay6]
             try dsimp only
             refine tkH 8 rfl (v := ?b8_v8) ?b8_hy8 ?b8_rest8
             case b8_hy8 => (intro w hSw; (try dsimp only at hSw); go_simp; try (with_reducible rfl))
             try simp only [Act.put, lay1, lay2, lay3, lay4, lay5, lay6]
             try dsimp only
             try simp only [Act.put, lay1, lay2, lay3, lay4, lay5, lay6]
             refine wpAnyH_done (by kernel_rfl) ?_ _
             refine NoPanic.normal ?_
             replace hx := hx.below d4_
             replace hX := hX.below d4_ hX.lt
             replace hbk := hbk.below d4_
             replace hi1 := hi1.below d4_
             replace hY := hY.below d4_ hY.lt
             replace hB := hB.trans (d4_.mono hB.size)
             clear c7_hX_0 c7_hX_1 c7_hX_2 c7_hX_3 c7_hX_4 c7_hX_5 c7_hY_0 c7_hY_1 c7_hY_2 c7_hY_3
             obtain ⟨c8_hX_0, c8_hX_1, c8_hX_2, c8_hX_3, c8_hX_4, c8_hX_5⟩ := hX.cells6t
             obtain ⟨c8_hY_0, c8_hY_1, c8_hY_2, c8_hY_3⟩ := hY.quad
             have HRES := Lib.hid (okTo_le HK3.out (show j + 1 ≤ bs.length by omega))
             go_wp2
             go_ret
             exact ⟨congrArg (fun b => Ending.returned (Value.bool b)) HRES.out.symm, hB⟩
           · refine wp_region_noPanic ?_
             refine wp_region_held_drew (S := fun w' => w'.cell? ⟨X1, 0, none⟩ = some (.int .i64 4) ∧ w'.cell? ⟨X1, 1, none⟩ = some (.int .i64 sc) ∧ w'.cell? ⟨X1, 2, none⟩ = some (.slice P1 cs.length Q1) ∧ w'.cell? ⟨X1, 3, none⟩ = some (.slice P2 wd.length Q2) ∧ w'.cell? ⟨g, 0, none⟩ = some (.int .i64 k) ∧ w'.cell? ⟨g, 1, none⟩ = some (.int .i64 Z) ∧ w'.cell? ⟨g, 2, none⟩ = some (.int .i64 m) ∧ w'.cell? ⟨g, 3, none⟩ = some (.int .i64 o) ∧ w'.cell? ⟨g, 4, none⟩ = some (.int .i64 N)) (by kernel_rfl) ?_ (fun hHeld => ?_)
             · exact ⟨(hY.below (by first | assumption | exact bdrew _) hY.lt).cell 0, (hY.below (by first | assumption | exact bdrew _) hY.lt).cell 1, (hY.below (by first | assumption | exact bdrew _) hY.lt).cell 2, (hY.below (by first | assumption | exact bdrew _) hY.lt).cell 3, (hX.below (by first | assumption | exact bdrew _) hX.lt).cell 0, (hX.below (by first | assumption | exact bdrew _) hX.lt).cell 1, (hX.below (by first | assumption | exact bdrew _) hX.lt).cell 2, (hX.below (by first | assumption | exact bdrew _) hX.lt).cell 3, (hX.below (by first | assumption | exact bdrew _) hX.lt).cell 4⟩
             refine tkH 0 rfl (v := ?b9_v0) ?b9_hy0 ?b9_rest0
             case b9_hy0 => (intro w hSw; (try dsimp only at hSw); go_simp; try (with_reducible rfl))
             try simp only [Act.put, lay1, lay3, lay4, lay5, lay6]
             refine tkH 1 rfl (v := ?b9_v1) ?b9_hy1 ?b9_rest1
             case b9_hy1 => (intro w hSw; (try dsimp only at hSw); go_simp; try (with_reducible rfl))
             refine tkH 2 rfl (v := ?b9_v2) ?b9_hy2 ?b9_rest2
             case b9_hy2 => (intro w hSw; (try dsimp only at hSw); go_simp; try (with_reducible rfl))
             refine tkH 3 rfl (v := ?b9_v3) ?b9_hy3 ?b9_rest3
             case b9_hy3 => (intro w hSw; (try dsimp only at hSw); go_simp; try (with_reducible rfl))
             refine tkH 4 rfl (v := ?b9_v4) ?b9_hy4 ?b9_rest4
             case b9_hy4 => (intro w hSw; (try dsimp only at hSw); go_simp; try (with_reducible rfl))
             refine tkH 5 rfl (v := ?b9_v5) ?b9_hy5 ?b9_rest5
             case b9_hy5 => (intro w hSw; (try dsimp only at hSw); go_simp; try (with_reducible rfl))
             try simp only [Act.put, lay1, lay2, lay3, lay4, lay5, lay6]
             refine wpAnyH_ready (rs := [6]) (by kernel_rfl) (by simp) ?_
             refine AllReadyH.cons rfl (fun K hK => ?_) AllReadyH.nil
             go_simp
             refine (hG _ (hi1.below (bdrew _))).mono ?_
             rintro e u3 ⟨rfl, n3, hn3⟩
             have d3_ : Below u2.heap.size u2 u3 := by rw [hn3]; exact below_drewN (bdrew _) n3
             clear hn3
             go_wp2_with fail
             refine hK.out _ _ ?_ (fun hHeld => ?_)
             · exact ⟨(hY.below (by first | assumption | exact bdrew _) hY.lt).cell 0, (hY.below (by first | assumption | exact bdrew _) hY.lt).cell 1, (hY.below (by first | assumption | exact bdrew _) hY.lt).cell 2, (hY.below (by first | assumption | exact bdrew _) hY.lt).cell 3, (hX.below (by first | assumption | exact bdrew _) hX.lt).cell 0, (hX.below (by first | assumption | exact bdrew _) hX.lt).cell 1, (hX.below (by first | assumption | exact bdrew _) hX.lt).cell 2, (hX.below (by first | assumption | exact bdrew _) hX.lt).cell 3, (hX.below (by first | assumption | exact bdrew _) hX.lt).cell 4⟩
             clear hK K
             try simp only [Act.put, lay1, lay2, lay3, lay4, lay5, lay6]
             try dsimp only
             try simp only [Act.put, lay1, lay2, lay3, lay4, lay5, lay6]
             refine wpAnyH_ready (rs := [7]) (by kernel_rfl) (by simp) ?_
             refine AllReadyH.cons rfl (fun K hK => ?_) AllReadyH.nil
             go_simp
             refine (hSt _).mono ?_
             rintro e u4 ⟨rfl, d4_⟩
             have d4_ := bstep d3_ d4_
             go_wp2_with fail
             refine hK.out _ _ ?_ (fun hHeld => ?_)
             · exact ⟨(hY.below (by first | assumption | exact bdrew _) hY.lt).cell 0, (hY.below (by first | assumption | exact bdrew _) hY.lt).cell 1, (hY.below (by first | assumption | exact bdrew _) hY.lt).cell 2, (hY.below (by first | assumption | exact bdrew _) hY.lt).cell 3, (hX.below (by first | assumption | exact bdrew _) hX.lt).cell 0, (hX.below (by first | assumption | exact bdrew _) hX.lt).cell 1, (hX.below (by first | assumption | exact bdrew _) hX.lt).cell 2, (hX.below (by first | assumption | exact bdrew _) hX.lt).cell 3, (hX.below (by first | assumption | exact bdrew _) hX.lt).cell 4⟩
             clear hK K
             try simp only [Act.put, lay1, lay2, lay3, lay4, lay5, lay6]
             try dsimp only
             refine tkH 8 rfl (v := ?b9_v8) ?b9_hy8 ?b9_rest8
             case b9_hy8 => (intro w hSw; (try dsimp only at hSw); go_simp; try (with_reducible rfl))
             try simp only [Act.put, lay1, lay2, lay3, lay4, lay5, lay6]
             try dsimp only
             try simp only [Act.put, lay1, lay2, lay3, lay4, lay5, lay6]
             refine wpAnyH_done (by kernel_rfl) ?_ _
             refine NoPanic.normal ?_
             replace hx := hx.below d4_
             replace hX := hX.below d4_ hX.lt
             replace hbk := hbk.below d4_
             replace hi1 := hi1.below d4_
             replace hY := hY.below d4_ hY.lt
             replace hB := hB.trans (d4_.mono hB.size)
             clear c7_hX_0 c7_hX_1 c7_hX_2 c7_hX_3 c7_hX_4 c7_hX_5 c7_hY_0 c7_hY_1 c7_hY_2 c7_hY_3
             obtain ⟨c8_hX_0, c8_hX_1, c8_hX_2, c8_hX_3, c8_hX_4, c8_hX_5⟩ := hX.cells6t
             obtain ⟨c8_hY_0, c8_hY_1, c8_hY_2, c8_hY_3⟩ := hY.quad
             go_wp2
             exact ⟨⟨j + 1, by go_num, by omega, Lib.hid HK3.out, bl.trans ((bstep hBr d4_).mono bl.size)⟩, by simp [intOf]; omega⟩
         · have hk5 : (k1 == 4) = false := by rw [beq_eq_false_iff_ne]; exact hk4
           have hk6 : decide (k1 = 4) = false := decide_eq_false hk4
           rw [if_neg hk4] at HK2
           have hSt := fun w => rwide14_any k Z m o N sc w
           clear hbr
           by_cases hke : k1 = k
           · have h1 : (k1 != k) = false := by rw [hke]; simp
             have h1' : decide (k1 = k) = true := decide_eq_true hke
             have HK3 := Lib.hid (show okTo k Z m o N bs (j + 1) = !staysB m o N sc by
               rw [HK2.out]
               cases staysB m o N sc
               · rw [if_neg (by decide)]; exact h1'
               · rw [if_pos rfl]; exact hk6)
             clear hke
             generalize staysB m o (N : Int) sc = sb at *
             go_wp2_with fail
             refine (hSt _).mono ?_
             rintro e w1 ⟨rfl, b1⟩
             replace hx := hx.below b1
             replace hX := hX.below b1 hX.lt
             replace hbk := hbk.below b1
             replace hi1 := hi1.below b1
             replace hY := hY.below b1 hY.lt
             replace hB := hB.trans (b1.mono hB.size)
             clear c7_hX_0 c7_hX_1 c7_hX_2 c7_hX_3 c7_hX_4 c7_hX_5 c7_hY_0 c7_hY_1 c7_hY_2 c7_hY_3
             obtain ⟨c8_hX_0, c8_hX_1, c8_hX_2, c8_hX_3, c8_hX_4, c8_hX_5⟩ := hX.cells6t
             obtain ⟨c8_hY_0, c8_hY_1, c8_hY_2, c8_hY_3⟩ := hY.quad
             replace hBr := bstep hBr b1
             rcases sb with _ | _
             · go_wp2
               exact ⟨⟨j + 1, by go_num, by omega, Lib.hid HK3.out, bl.trans (hBr.mono bl.size)⟩, by simp [intOf]; omega⟩
             · have HRES := Lib.hid (okTo_le HK3.out (show j + 1 ≤ bs.length by omega))
               go_wp2
               go_ret
               exact ⟨congrArg (fun b => Ending.returned (Value.bool b)) HRES.out.symm, hB⟩
           · have h1 : (k1 != k) = true := by rw [bne_iff_ne]; exact hke
             have h1' : decide (k1 = k) = false := decide_eq_false hke
             have hres : okTo k Z m o N bs (j + 1) = false := by
               rw [HK2.out]
               cases staysB m o N sc
               · rw [if_neg (by decide)]; exact h1'
               · rw [if_pos rfl]; exact hk6
             have HRES := Lib.hid (okTo_le hres (show j + 1 ≤ bs.length by omega))
             clear hres hke
             go_wp2
             go_ret
             exact ⟨congrArg (fun b => Ending.returned (Value.bool b)) HRES.out.symm, hB⟩
       · have h2 : (ln != min (Z : Int) d) = true := by rw [bne_iff_ne]; exact hle
         have h2' : decide (ln = min (Z : Int) d) = false := decide_eq_false hle
         have hres : okTo k Z m o N bs (j + 1) = false := by rw [HS.out, HOK.out, hbr, h2']; simp
         have HRES := Lib.hid (okTo_le hres (show j + 1 ≤ bs.length by omega))
         clear hres hle hbr
         refine wp_region_noPanic ?_
         refine wp_region_held_drew (S := fun w' => w'.cell? ⟨X1, 0, none⟩ = some (.int .i64 k1) ∧ w'.cell? ⟨X1, 1, none⟩ = some (.int .i64 sc) ∧ w'.cell? ⟨X1, 2, none⟩ = some (.slice P1 cs.length Q1) ∧ w'.cell? ⟨X1, 3, none⟩ = some (.slice P2 wd.length Q2) ∧ w'.cell? ⟨g, 0, none⟩ = some (.int .i64 k) ∧ w'.cell? ⟨g, 1, none⟩ = some (.int .i64 Z) ∧ w'.cell? ⟨g, 2, none⟩ = some (.int .i64 m) ∧ w'.cell? ⟨g, 3, none⟩ = some (.int .i64 o) ∧ w'.cell? ⟨g, 4, none⟩ = some (.int .i64 N)) (by kernel_rfl) ?_ (fun hHeld => ?_)
         · exact ⟨(hY.below (by first | assumption | exact bdrew _) hY.lt).cell 0, (hY.below (by first | assumption | exact bdrew _) hY.lt).cell 1, (hY.below (by first | assumption | exact bdrew _) hY.lt).cell 2, (hY.below (by first | assumption | exact bdrew _) hY.lt).cell 3, (hX.below (by first | assumption | exact bdrew _) hX.lt).cell 0, (hX.below (by first | assumption | exact bdrew _) hX.lt).cell 1, (hX.below (by first | assumption | exact bdrew _) hX.lt).cell 2, (hX.below (by first | assumption | exact bdrew _) hX.lt).cell 3, (hX.below (by first | assumption | exact bdrew _) hX.lt).cell 4⟩
         refine tkH 0 rfl (v := ?b10_v0) ?b10_hy0 ?b10_rest0
         case b10_hy0 => (intro w hSw; (try dsimp only at hSw); go_simp; try (with_reducible rfl))
         try simp only [Act.put, lay1, lay3, lay4, lay5, lay6]
         refine wpAnyH_ready (rs := [1]) (by kernel_rfl) (by simp) ?_
         refine AllReadyH.cons rfl (fun K hK => ?_) AllReadyH.nil
         go_simp
         refine (hR _ _ (hbk.below (bdrew _))).mono ?_
         rintro e u1 ⟨rfl, d1_⟩
         have d1_ := bstep (bdrew V1) d1_
         go_wp2_with fail
         refine hK.out _ _ ?_ (fun hHeld => ?_)
         · exact ⟨(hY.below (by first | assumption | exact bdrew _) hY.lt).cell 0, (hY.below (by first | assumption | exact bdrew _) hY.lt).cell 1, (hY.below (by first | assumption | exact bdrew _) hY.lt).cell 2, (hY.below (by first | assumption | exact bdrew _) hY.lt).cell 3, (hX.below (by first | assumption | exact bdrew _) hX.lt).cell 0, (hX.below (by first | assumption | exact bdrew _) hX.lt).cell 1, (hX.below (by first | assumption | exact bdrew _) hX.lt).cell 2, (hX.below (by first | assumption | exact bdrew _) hX.lt).cell 3, (hX.below (by first | assumption | exact bdrew _) hX.lt).cell 4⟩
         clear hK K
         refine tkH 2 rfl (v := ?b10_v2) ?b10_hy2 ?b10_rest2
         case b10_hy2 => (intro w hSw; (try dsimp only at hSw); go_simp; try (with_reducible rfl))
         refine tkH 3 rfl (v := ?b10_v3) ?b10_hy3 ?b10_rest3
         case b10_hy3 => (intro w hSw; (try dsimp only at hSw); go_simp; try (with_reducible rfl))
         refine tkH 4 rfl (v := ?b10_v4) ?b10_hy4 ?b10_rest4
         case b10_hy4 => (intro w hSw; (try dsimp only at hSw); go_simp; try (with_reducible rfl))
         refine tkH 6 rfl (v := ?b10_v6) ?b10_hy6 ?b10_rest6
         case b10_hy6 => (intro w hSw; (try dsimp only at hSw); go_simp; try (with_reducible rfl))
         refine tkH 7 rfl (v := ?b10_v7) ?b10_hy7 ?b10_rest7
         case b10_hy7 => (intro w hSw; (try dsimp only at hSw); go_simp; try (with_reducible rfl))
         refine tkH 8 rfl (v := ?b10_v8) ?b10_hy8 ?b10_rest8
         case b10_hy8 => (intro w hSw; (try dsimp only at hSw); go_simp; try (with_reducible rfl))
         refine tkH 9 rfl (v := ?b10_v9) ?b10_hy9 ?b10_rest9
         case b10_hy9 => (intro w hSw; (try dsimp only at hSw); go_simp; try (with_reducible rfl))
         refine tkH 10 rfl (v := ?b10_v10) ?b10_hy10 ?b10_rest10
         case b10_hy10 => (intro w hSw; (try dsimp only at hSw); go_simp; try (with_reducible rfl))
         refine tkH 11 rfl (v := ?b10_v11) ?b10_hy11 ?b10_rest11
         case b10_hy11 => (intro w hSw; (try dsimp only at hSw); go_simp; try (with_reducible rfl))
         refine tkH 12 rfl (v := ?b10_v12) ?b10_hy12 ?b10_rest12
         case b10_hy12 => (intro w hSw; (try dsimp only at hSw); go_simp; try (with_reducible rfl))
         refine tkH 13 rfl (v := ?b10_v13) ?b10_hy13 ?b10_rest13
         case b10_hy13 => (intro w hSw; (try dsimp only at hSw); go_simp; try (with_reducible rfl))
         refine tkH 14 rfl (v := ?b10_v14) ?b10_hy14 ?b10_rest14
         case b10_hy14 => (intro w hSw; (try dsimp only at hSw); go_simp; try (with_reducible rfl))
         refine tkH 15 rfl (v := ?b10_v15) ?b10_hy15 ?b10_rest15
         case b10_hy15 => (intro w hSw; (try dsimp only at hSw); go_simp; try (with_reducible rfl))
         refine tkH 16 rfl (v := ?b10_v16) ?b10_hy16 ?b10_rest16
         case b10_hy16 => (intro w hSw; (try dsimp only at hSw); go_simp; try (with_reducible rfl))
         refine tkH 17 rfl (v := ?b10_v17) ?b10_hy17 ?b10_rest17
         case b10_hy17 => (intro w hSw; (try dsimp only at hSw); go_simp; try (with_reducible rfl))
         try simp only [Act.put, lay1, lay2, lay3, lay4, lay5, lay6]
         refine wpAnyH_ready (rs := [5]) (by kernel_rfl) (by simp) ?_
         refine AllReadyH.cons rfl (fun K hK => ?_) AllReadyH.nil
         go_simp
         refine (hLn _ _ (hbk.below d1_)).mono ?_
         rintro e u2 ⟨rfl, d2_⟩
         have d2_ := bstep d1_ d2_
         go_wp2_with fail
         refine hK.out _ _ ?_ (fun hHeld => ?_)
         · exact ⟨(hY.below (by first | assumption | exact bdrew _) hY.lt).cell 0, (hY.below (by first | assumption | exact bdrew _) hY.lt).cell 1, (hY.below (by first | assumption | exact bdrew _) hY.lt).cell 2, (hY.below (by first | assumption | exact bdrew _) hY.lt).cell 3, (hX.below (by first | assumption | exact bdrew _) hX.lt).cell 0, (hX.below (by first | assumption | exact bdrew _) hX.lt).cell 1, (hX.below (by first | assumption | exact bdrew _) hX.lt).cell 2, (hX.below (by first | assumption | exact bdrew _) hX.lt).cell 3, (hX.below (by first | assumption | exact bdrew _) hX.lt).cell 4⟩
         clear hK K
         try simp only [Act.put, lay1, lay2, lay3, lay4, lay5, lay6]
         try dsimp only
         refine tkH 18 rfl (v := ?b10_v18) ?b10_hy18 ?b10_rest18
         case b10_hy18 => (intro w hSw; (try dsimp only at hSw); go_simp; try (with_reducible rfl))
         try simp only [Act.put, lay1, lay2, lay3, lay4, lay5, lay6]
         try dsimp only
         refine tkH 19 rfl (v := ?b10_v19) ?b10_hy19 ?b10_rest19
         case b10_hy19 => (intro w hSw; (try dsimp only at hSw); go_simp; try (with_reducible rfl))
         try simp only [Act.put, lay1, lay2, lay3, lay4, lay5, lay6]
         try dsimp only
         try simp only [Act.put, lay1, lay2, lay3, lay4, lay5, lay6]
         refine wpAnyH_done (by kernel_rfl) ?_ _
         refine NoPanic.normal ?_
         replace hx := hx.below d2_
         replace hX := hX.below d2_ hX.lt
         replace hbk := hbk.below d2_
         replace hi1 := hi1.below d2_
         replace hY := hY.below d2_ hY.lt
         replace hB := hB.trans (d2_.mono hB.size)
         obtain ⟨c6_hX_0, c6_hX_1, c6_hX_2, c6_hX_3, c6_hX_4, c6_hX_5⟩ := hX.cells6t
         obtain ⟨c6_hY_0, c6_hY_1, c6_hY_2, c6_hY_3⟩ := hY.quad
         go_wp2
         go_ret
         exact ⟨congrArg (fun b => Ending.returned (Value.bool b)) HRES.out.symm, hB⟩
   · obtain rfl : j = bs.length := by omega
     have HRES := Lib.hid hok.out
     clear c3_hX_0 c3_hX_1 c3_hX_2 c3_hX_3 c3_hX_4 c3_hX_5
     obtain ⟨c4_hX_0, c4_hX_1, c4_hX_2, c4_hX_3, c4_hX_4, c4_hX_5⟩ := hX.cells6t
     go_wp2
     go_ret
     exact ⟨congrArg (fun b => Ending.returned (Value.bool b)) HRES.out.symm, hB⟩
theorem rright14_any (v : Value) (s : St) (w : World) (h : IsSt w v s) (hlb : ∀ b ∈ s.2.2.2.2.2, BkIn b) :
   Calls Tryz.prog 13 #[v] w fun e w' => e = .returned (.bool (rightS s)) ∧ Below w.heap.size w w' := by
 obtain ⟨k, z, m, o, n, bs⟩ := s
 simp only [rightS]
 by_cases hm : mayB k z m o = true
 · rw [hm, Bool.true_and]
   by_cases hn : 0 ≤ n
   · by_cases hn2 : n ≤ 4096
     · have e : ((partN z.toNat n.toNat : Nat) : Int) = (n + z - 1) / z := by
         obtain ⟨Z, rfl, z1, z2⟩ := size_of hm
         obtain ⟨N, rfl⟩ := Int.eq_ofNat_of_zero_le hn
         rw [Int.toNat_natCast, Int.toNat_natCast, partN_int z1]
       by_cases hb : (bs.length : Int) = (partN z.toNat n.toNat : Nat)
       · rw [decide_eq_true ⟨hn, hn2, hb.trans e⟩, Bool.true_and]
         exact rright14_main v k z m o n bs w h hm hn hn2 hb hlb
       · rw [decide_eq_false (fun h => hb (h.2.2.trans e.symm)), Bool.false_and]
         exact rright14_len v k z m o n bs w h hm hn hn2 hb
     · rw [decide_eq_false (fun h => hn2 h.2.1), Bool.false_and]
       exact rright14_big v k z m o n bs w h hm hn (by omega)
   · rw [decide_eq_false (fun h => hn h.1), Bool.false_and]
     exact rright14_neg v k z m o n bs w h hm (by omega)
 · have hm' : mayB k z m o = false := by simpa using hm
   rw [hm', Bool.false_and]
   exact rright14_may v k z m o n bs w h hm'
end Go.Proofs.YtdnjdglekifhpaaGreat
