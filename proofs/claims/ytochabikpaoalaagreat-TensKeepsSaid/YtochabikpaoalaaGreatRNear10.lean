/- The document's codes, by all codes. Printed by gen_rnear.py. -/
import Derived.Test.YtochabikpaoalaaGreatRef10
namespace Go.Proofs.YtochabikpaoalaaGreat
open Go.RowKit
attribute [local go_sem ↓] Go.wp_at_zero Go.wp_at_succ

theorem zcell {w : World} {v : Value} {m : Nat} (h : IsZ w v (m : Int)) : ∃ A L C, v = .agg #[.bool false, .slice A L C] ∧ IsN w (.slice A L C) m := by
  obtain ⟨nv, rfl, hn⟩ := h
  obtain ⟨A, L, C, rfl⟩ := hn.frm
  exact ⟨A, L, C, by rw [decide_eq_false (by omega)], by simpa using hn⟩
theorem toZ {w : World} {u : Value} {m : Nat} (h : IsN w u m) : IsZ w (.agg #[.bool false, u]) (m : Int) := ⟨u, by rw [decide_eq_false (by omega)], by simpa using h⟩
/-- b is the first of the nearest codes below c -/
def Best (D : Nat → Nat) (b c : Nat) : Prop := b < c ∧ ∀ j, j < c → D b ≤ D j ∧ (j < b → D b < D j)
theorem Best.one (D : Nat → Nat) : Best D 0 1 := ⟨by omega, fun j hj => by
  have e : j = 0 := by omega
  subst e
  exact ⟨Nat.le_refl _, fun h => by omega⟩⟩
def noI2 : Value → Bool
  | .int .i64 _ => false
  | _ => true
theorem IsI.keepBlk2 {w w' : World} {R : Nat} {u : Value} {xs : List Int} {t : TypeId} {cs : Array Value} (h : IsI w u xs) (hR : Blk w R t cs) (hcs : cs.all noI2 = true) (hw : ∀ k, k ≠ R → w'.heap[k]? = w.heap[k]?) (hsz : w.heap.size ≤ w'.heap.size) : IsI w' u xs := by
  obtain ⟨A, c, rfl, h1, h2, h4⟩ := h
  refine ⟨A, c, rfl, h1, h2, h4.1, fun hn => ?_⟩
  obtain ⟨ad, rfl, hb, hc⟩ := h4.2 hn
  refine ⟨ad, rfl, by omega, fun j y hj => ?_⟩
  have hne : ad.block ≠ R := by
    intro e
    have hl := h4.1
    have h0 := hc 0 _ (is_at xs 0 (by rw [is_len] at hl; omega))
    obtain ⟨b, off, sp⟩ := ad
    dsimp only at e; subst e
    rw [Addr.add, if_pos rfl] at h0
    have hsp : sp = none := World.cell?_spot h0
    subst hsp
    rw [hR.cell] at h0
    have := Array.all_eq_true_iff_forall_mem.1 hcs _ (Array.mem_of_getElem? h0)
    simp [noI2] at this
  rw [← hc j y hj]
  exact World.cell?_of_block (by rw [block_of_add]; exact hw _ hne)
theorem IsI.put2 {w : World} {R : Nat} {u : Value} {xs : List Int} {t : TypeId} {a b : Value} (h : IsI w u xs) (hR : Blk w R t #[a, b]) (hcs : (#[a, b] : Array Value).all noI2 = true) (x y : Value) : IsI ((w.setCell ⟨R, 0, none⟩ x).setCell ⟨R, 1, none⟩ y) u xs :=
  h.keepBlk2 hR hcs (fun k hk => (Below.heap_setCell _ ⟨R, 1, none⟩ y k hk).trans (Below.heap_setCell w ⟨R, 0, none⟩ x k hk)) (by simp [World.setCell])
theorem Best.keep {D : Nat → Nat} {b c : Nat} (h : Best D b c) (hc : D b ≤ D c) : Best D b (c + 1) := ⟨by have := h.1; omega, fun j hj => by
  rcases Nat.lt_or_ge j c with h' | h'
  · exact h.2 j h'
  · obtain rfl : j = c := by omega
    exact ⟨hc, fun h2 => by have := h.1; omega⟩⟩
theorem Best.new {D : Nat → Nat} {b c : Nat} (h : Best D b c) (hc : D c < D b) : Best D c (c + 1) := ⟨by omega, fun j hj => by
  rcases Nat.lt_or_ge j c with h' | h'
  · have := (h.2 j h').1
    exact ⟨by omega, fun _ => by omega⟩
  · obtain rfl : j = c := by omega
    exact ⟨Nat.le_refl _, fun h2 => by omega⟩⟩
theorem Best.code {n : Nat} (hn : n < 4) {num d : Int} (hs : share n num d = true) {b : Nat} (h : Best (dist n num d) b 256) : b = codeOf n num d := by
  have hc := codeOf_le n num d
  have h1 := h.2 (codeOf n num d) (by omega)
  rcases Nat.lt_trichotomy b (codeOf n num d) with hlt | heq | hgt
  · have := (near_dist hn hs (o := b) (by have := h.1; omega)).1 hlt
    omega
  · exact heq
  · have := h1.2 hgt
    have := (near_dist hn hs (o := b) h.1).2 (by omega)
    omega
set_option maxRecDepth 100000 in
set_option maxHeartbeats 8000000 in
theorem rnear_ok (n : Nat) (hn : n < 4) (num d : Int) (w : World) (hi : I64 num) (hd : I64 d) (hs : share n num d = true) :
    Calls Tryz.prog 51 #[.int .i64 n, .int .i64 num, .int .i64 d] w fun e w' => e = .returned (.tuple #[.int .u8 (codeOf n num d : Nat), .int .i64 0]) ∧ Below w.heap.size w w' := by
  have hSh := fun w => rShare_any n num d hd w
  rw [hs] at hSh
  have hB0 := fun w => rbook_any n w
  rw [show bke n = 0 from if_pos (by omega), bkz_nat n hn] at hB0
  have hSr := fun w => rshare_any n hn num hi w
  have hin := bk_in hn
  obtain ⟨d0, d1⟩ := dens_pos hn
  have s1 : Sz num.natAbs 1 := Sz.u64 (by have := hi.1; have := hi.2; unfold W64; omega)
  have s2 : Sz (den (n : Nat)).natAbs 1 := Sz.u64 (by unfold W64; omega)
  have s3 : Sz (num * den (n : Nat)).natAbs 4 := by rw [Int.natAbs_mul]; exact (s1.mul s2).more (by omega)
  have hF := fun v w h y => rfar_any v (num * den (n : Nat)) (iat (bk n) y) d w h s3 (by have := hin y; unfold I64; omega) hd
  have hD : ∀ y, (num * den (n : Nat) - iat (bk n) y * d).natAbs = dist n num d y := fun _ => rfl
  simp only [hD] at hF
  have hC := fun u v w p q h1 h2 => rzcmp_any u v ((dist n num d p : Nat) : Int) ((dist n num d q : Nat) : Int) w h1 h2
  have hlen := bk_len n hn
  have KEY : Hid (∀ b, Best (dist n num d) b 256 → b = codeOf n num d) := Lib.hid fun b h => Best.code hn hs h
  have hcl : Hid (codeOf n num d ≤ 255) := Lib.hid (codeOf_le n num d)
  generalize codeOf n num d = c0 at *
  generalize dist n num d = D at *
  generalize num * den (n : Nat) = X at *
  clear hD s1 s2 s3 d0 d1 hin hs hi hd hn
  have hB := Below.refl w.heap.size w
  generalize bk n = l at *
  go_enter Tryz.func51, Tryz.ntmps51
  go_wp2_with fail
  refine (hSh _).mono ?_
  rintro e w1 ⟨rfl, rfl⟩
  go_wp2_with fail
  refine (hB0 _).mono ?_
  rintro e w2 ⟨v1, rfl, hL, b2⟩
  replace hB := hB.trans (b2.mono hB.size)
  obtain ⟨A1, C1, rfl, _, _⟩ := hL.form
  rw [hlen] at hL ⊢
  obtain ⟨ad, rfl, _⟩ := hL.at_ (k := 0) (by omega)
  go_wp2_with fail
  refine (hSr _).mono ?_
  rintro e w3 ⟨v2, rfl, h2, b3⟩
  replace hL := hL.below b3
  replace hB := hB.trans (b3.mono hB.size)
  obtain ⟨nx, rfl, hX⟩ := (id h2 : IsZ _ _ _)
  obtain ⟨Ax, Lx, Cx, rfl⟩ := hX.frm
  clear hX
  generalize decide (X < 0) = sg at *
  obtain ⟨V1, eV, hO, bV1⟩ := box1 w3 78 #[.bool sg, .slice Ax Lx Cx]
  obtain ⟨X1, eX⟩ : ∃ X, X = w3.heap.size := ⟨_, rfl⟩
  rw [← eX] at hO
  have EV1 := Lib.hid (And.intro eV eX)
  clear eV eX
  go_upto_region 6 with fail
  rw [← EV1.out.1, ← EV1.out.2]
  replace hL := hL.below bV1
  replace h2 := h2.below bV1
  replace hB := hB.trans (bV1.mono hB.size)
  obtain ⟨c4_hO_0, c4_hO_1⟩ := hO.cells2
  have hl0 : (0 : Nat) < 256 := by omega
  obtain ⟨_, e, cy⟩ := hL.at_ (k := 0) (by omega)
  cases e
  obtain ⟨cO0, cO1⟩ := hO.cells2
  have hFk := fun v w h => hF v w h 0
  generalize hy0 : iat l 0 = y at *
  rw [show Addr.add ad 0 = ad from by simp [Addr.add]] at cy
  go_cut [12] (fun s wx => ∃ Z A1 L1 C1, s = .pointer (some ⟨Z, 0, none⟩) ∧ V1.heap.size ≤ Z ∧ Blk wx Z 78 #[.bool false, .slice A1 L1 C1] ∧ IsN wx (.slice A1 L1 C1) (D 0) ∧ Below V1.heap.size V1 wx)
  case first =>
    go_region_held3 (fun w' => w'.cell? ⟨X1, 0, none⟩ = some (.bool sg) ∧ w'.cell? ⟨X1, 1, none⟩ = some (.slice Ax Lx Cx) ∧ w'.cell? ad = some (.int .i64 y))
      (first | exact ⟨cellB (by first | assumption | exact bdrew _ | exact Below.refl _ _ | exact balloc (bdrew _) _ | exact balloc (by assumption) _ | exact balloc (Below.refl _ _) _ | exact bset (bset (by assumption) (by first | assumption | exact Nat.le_refl _) _) (by first | assumption | exact Nat.le_refl _) _) cO0, cellB (by first | assumption | exact bdrew _ | exact Below.refl _ _ | exact balloc (bdrew _) _ | exact balloc (by assumption) _ | exact balloc (Below.refl _ _) _ | exact bset (bset (by assumption) (by first | assumption | exact Nat.le_refl _) _) (by first | assumption | exact Nat.le_refl _) _) cO1, cellB (by first | assumption | exact bdrew _ | exact Below.refl _ _ | exact balloc (bdrew _) _ | exact balloc (by assumption) _ | exact balloc (Below.refl _ _) _ | exact bset (bset (by assumption) (by first | assumption | exact Nat.le_refl _) _) (by first | assumption | exact Nat.le_refl _) _) cy⟩ | exact ⟨cO0, cO1, cy⟩)
      (first
        | (go_at_call 68; (with_reducible refine (hFk _ _ ?_).mono ?_); exact h2.below (by first | assumption | exact bdrew _ | exact Below.refl _ _ | exact balloc (bdrew _) _ | exact balloc (by assumption) _ | exact balloc (Below.refl _ _) _ | exact bset (bset (by assumption) (by first | assumption | exact Nat.le_refl _) _) (by first | assumption | exact Nat.le_refl _) _); rintro e w4 ⟨v4, rfl, h4, b4⟩; (first | ((first | have hXX := newX b4 V1 (by first | assumption | exact bdrew _) | have hXX := newX (undrew b4) V1 (by first | exact Below.refl _ _ | assumption)); obtain ⟨hZ, sZ⟩ := hXX; try simp only [World.size_drew] at hZ sZ) | (have hZ := hZ.below b4 hZ.lt) | skip); obtain ⟨A4, L4, C4, rfl, k4⟩ := zcell h4; have B4 := bstep (a := V1) (by first | assumption | exact bdrew _ | exact Below.refl _ _ | exact balloc (bdrew _) _ | exact balloc (by assumption) _ | exact balloc (Below.refl _ _) _ | exact bset (bset (by assumption) (by first | assumption | exact Nat.le_refl _) _) (by first | assumption | exact Nat.le_refl _) _) b4; (try (obtain ⟨z0, z1⟩ := hZ.cells2; have y0 := hZ.frozen 0; have y1 := hZ.frozen 1))))
    all_goals (go_wp2_with fail; go_meet)
    all_goals
      first
        | exact ⟨_, _, _, _, rfl, B4.size, Blk.new _ _ _, k4.below (balloc (Below.refl _ _) _), balloc B4 _⟩
        | (obtain ⟨p1, p2, p3⟩ := put2 hZ (.bool false) (.slice A4 L4 C4) (by simp [noU]) B4 (by first | assumption | exact Nat.le_refl _)
           exact ⟨_, _, _, _, rfl, (by first | assumption | exact Nat.le_refl _), p1, p2 _ _ k4, p3⟩)
  obtain ⟨Z, A2, L2, C2, rfl, sZ, hQ, hN, bz⟩ := hcut
  have hXZ : X1 < Z := Nat.lt_of_lt_of_le hO.lt sZ
  have hwZ : w.heap.size ≤ Z := Nat.le_trans hB.size sZ
  replace hL := hL.below bz
  replace h2 := h2.below bz
  replace hO := hO.below bz hO.lt
  replace hB := hB.trans (bz.mono hB.size)
  clear c4_hO_0 c4_hO_1
  obtain ⟨c5_hO_0, c5_hO_1⟩ := hO.cells2
  clear cy hFk hy0 cO0 cO1
  go_wp2
  go_loopw [10, 13] (fun b_ i_ wr => ∃ (b c : Nat) (A : Option Addr) (L C : Nat), b_ = .int .i64 b ∧ i_ = .int .i64 c ∧ c ≤ 256 ∧ Hid (Best D b c) ∧ Blk wr Z 78 #[.bool false, .slice A L C] ∧ IsN wr (.slice A L C) (D b) ∧ Blk wr X1 78 #[.bool sg, .slice Ax Lx Cx] ∧ IsI wr (.slice (some ad) 256 C1) l ∧ IsZ wr (.agg #[.bool sg, .slice Ax Lx Cx]) X ∧ Below w.heap.size w wr) (fun _ i_ _ => 256 - (intOf i_).toNat)
  case atStart => exact ⟨0, 1, _, _, _, rfl, rfl, by omega, Lib.hid (Best.one D), hQ, hN, hO, hL, h2, hB⟩
  case round =>
    clear hQ hN hO hL h2 hB
    obtain ⟨b, c, A, L, C, rfl, rfl, hc, hbest, hQ, hN, hO, hL, h2, hB⟩ := hrel
    by_cases hlt : c < 256
    · obtain ⟨_, e, cy⟩ := hL.at_ (k := c) (by omega)
      cases e
      have hFk := fun v w h => hF v w h c
      obtain ⟨cO0, cO1⟩ := hO.cells2
      have g0 : (0 : Int) ≤ (c : Int) := by omega
      have g1 : (c : Int) < 256 := by omega
      generalize hy0 : iat l c = y at *
      go_upto_region 10 with fail
      go_cut [14] (fun s wx => ∃ Z A1 L1 C1, s = .pointer (some ⟨Z, 0, none⟩) ∧ wr.heap.size ≤ Z ∧ Blk wx Z 78 #[.bool false, .slice A1 L1 C1] ∧ IsN wx (.slice A1 L1 C1) (D c) ∧ Below wr.heap.size wr wx)
      case first =>
        go_region_held3 (fun w' => w'.cell? ⟨X1, 0, none⟩ = some (.bool sg) ∧ w'.cell? ⟨X1, 1, none⟩ = some (.slice Ax Lx Cx) ∧ w'.cell? (ad.add c) = some (.int .i64 y))
          (first | exact ⟨cellB (by first | assumption | exact bdrew _ | exact Below.refl _ _ | exact balloc (bdrew _) _ | exact balloc (by assumption) _ | exact balloc (Below.refl _ _) _ | exact bset (bset (by assumption) (by first | assumption | exact Nat.le_refl _) _) (by first | assumption | exact Nat.le_refl _) _) cO0, cellB (by first | assumption | exact bdrew _ | exact Below.refl _ _ | exact balloc (bdrew _) _ | exact balloc (by assumption) _ | exact balloc (Below.refl _ _) _ | exact bset (bset (by assumption) (by first | assumption | exact Nat.le_refl _) _) (by first | assumption | exact Nat.le_refl _) _) cO1, cellB (by first | assumption | exact bdrew _ | exact Below.refl _ _ | exact balloc (bdrew _) _ | exact balloc (by assumption) _ | exact balloc (Below.refl _ _) _ | exact bset (bset (by assumption) (by first | assumption | exact Nat.le_refl _) _) (by first | assumption | exact Nat.le_refl _) _) cy⟩ | exact ⟨cO0, cO1, cy⟩)
          (first
            | (go_at_call 68; (with_reducible refine (hFk _ _ ?_).mono ?_); exact h2.below (by first | assumption | exact bdrew _ | exact Below.refl _ _ | exact balloc (bdrew _) _ | exact balloc (by assumption) _ | exact balloc (Below.refl _ _) _ | exact bset (bset (by assumption) (by first | assumption | exact Nat.le_refl _) _) (by first | assumption | exact Nat.le_refl _) _); rintro e w4 ⟨v4, rfl, h4, b4⟩; (first | ((first | have hXX := newX b4 wr (by first | assumption | exact bdrew _) | have hXX := newX (undrew b4) wr (by first | exact Below.refl _ _ | assumption)); obtain ⟨hZ, sZ⟩ := hXX; try simp only [World.size_drew] at hZ sZ) | (have hZ := hZ.below b4 hZ.lt) | skip); obtain ⟨A4, L4, C4, rfl, k4⟩ := zcell h4; have B4 := bstep (a := wr) (by first | assumption | exact bdrew _ | exact Below.refl _ _ | exact balloc (bdrew _) _ | exact balloc (by assumption) _ | exact balloc (Below.refl _ _) _ | exact bset (bset (by assumption) (by first | assumption | exact Nat.le_refl _) _) (by first | assumption | exact Nat.le_refl _) _) b4; (try (obtain ⟨z0, z1⟩ := hZ.cells2; have y0 := hZ.frozen 0; have y1 := hZ.frozen 1))))
        all_goals (go_wp2_with fail; go_meet)
        all_goals
          first
            | exact ⟨_, _, _, _, rfl, B4.size, Blk.new _ _ _, k4.below (balloc (Below.refl _ _) _), balloc B4 _⟩
            | (obtain ⟨p1, p2, p3⟩ := put2 hZ (.bool false) (.slice A4 L4 C4) (by simp [noU]) B4 (by first | assumption | exact Nat.le_refl _)
               exact ⟨_, _, _, _, rfl, (by first | assumption | exact Nat.le_refl _), p1, p2 _ _ k4, p3⟩)
      obtain ⟨Z2, A2, L2, C2, rfl, sZ2, hZ, hM, bz⟩ := hcut
      replace hL := hL.below bz
      replace h2 := h2.below bz
      replace hO := hO.below bz hO.lt
      replace hQ := hQ.below bz hQ.lt
      replace hN := hN.below bz
      replace hB := hB.trans (bz.mono hB.size)
      obtain ⟨c41_hO_0, c41_hO_1⟩ := hO.cells2
      obtain ⟨c41_hQ_0, c41_hQ_1⟩ := hQ.cells2
      clear cy hFk hy0 cO0 cO1
      clear c41_hO_0 c41_hO_1 c41_hQ_0 c41_hQ_1
      obtain ⟨c42_hO_0, c42_hO_1⟩ := hO.cells2
      obtain ⟨c42_hQ_0, c42_hQ_1⟩ := hQ.cells2
      obtain ⟨c42_hZ_0, c42_hZ_1⟩ := hZ.cells2
      go_wp2_with fail
      refine (hC _ _ _ c b (toZ hM) (toZ hN)).mono ?_
      rintro e w41 ⟨rfl, b41⟩
      replace hL := hL.below b41
      replace h2 := h2.below b41
      replace hO := hO.below b41 hO.lt
      replace hQ := hQ.below b41 hQ.lt
      replace hN := hN.below b41
      replace hZ := hZ.below b41 hZ.lt
      replace hM := hM.below b41
      replace hB := hB.trans (b41.mono hB.size)
      clear c42_hO_0 c42_hO_1 c42_hQ_0 c42_hQ_1 c42_hZ_0 c42_hZ_1
      obtain ⟨c43_hO_0, c43_hO_1⟩ := hO.cells2
      obtain ⟨c43_hQ_0, c43_hQ_1⟩ := hQ.cells2
      obtain ⟨c43_hZ_0, c43_hZ_1⟩ := hZ.cells2
      rcases (show (cmpI (D c : Int) (D b : Int) = -1 ∧ D c < D b) ∨ ((cmpI (D c : Int) (D b : Int) = 0 ∨ cmpI (D c : Int) (D b : Int) = 1) ∧ D b ≤ D c) by unfold cmpI; (repeat' split) <;> simp <;> omega) with ⟨hx, hlt2⟩ | ⟨hx, hle⟩
      · have HB2 := Lib.hid (hbest.out.new hlt2)
        rw [hx]
        have f0 := hQ.frozen 0
        have f1 := hQ.frozen 1
        obtain ⟨p1, p2, p3⟩ := put2 hQ (.bool false) (.slice A2 L2 C2) (by simp [noU]) hB hwZ
        have hO2 := (hO.far (p := ⟨Z, 0, none⟩) (show X1 ≠ Z by omega) (.bool false)).far (p := ⟨Z, 1, none⟩) (show X1 ≠ Z by omega) (.slice A2 L2 C2)
        have hL2 := hL.put2 hQ (by simp [noI2]) (.bool false) (.slice A2 L2 C2)
        have hM2 := p2 _ _ hM
        obtain ⟨nv, e22, hn22⟩ := (id h2 : IsZ _ _ _)
        have h22 := (⟨nv, e22, p2 _ _ hn22⟩ : IsZ _ (.agg #[.bool sg, .slice Ax Lx Cx]) X)
        clear e22 hn22
        have PP := Lib.hid (And.intro p1 (And.intro hM2 (And.intro hO2 (And.intro hL2 (And.intro h22 p3)))))
        clear p1 p2 p3 hO2 hL2 hM2 h22 hlt2 hx
        go_wp2
        go_roundw
        case rel =>
          obtain ⟨r1, r2, r3, r4, r5, r6⟩ := PP.out
          exact ⟨c, c + 1, _, _, _, rfl, by go_num, by omega, HB2, r1, r2, r3, r4, r5, r6⟩
        case measure => simp [intOf]; omega
      · have HB2 := Lib.hid (hbest.out.keep hle)
        generalize cmpI (D c : Int) (D b : Int) = x at *
        rcases hx with rfl | rfl
        all_goals
          go_wp2
          go_roundw
          case rel => exact ⟨b, c + 1, _, _, _, rfl, by go_num, by omega, HB2, hQ, hN, hO, hL, h2, hB⟩
          case measure => simp [intOf]; omega
    · obtain rfl : c = 256 := by omega
      obtain rfl : b = c0 := KEY.out _ hbest.out
      have hcl2 := hcl.out
      have hu : IntKind.u8.wrap (b : Int) = b := by rw [IntKind.wrap_u8]; omega
      go_wp2
      go_ret2
      exact ⟨rfl, hB⟩
end Go.Proofs.YtochabikpaoalaaGreat
