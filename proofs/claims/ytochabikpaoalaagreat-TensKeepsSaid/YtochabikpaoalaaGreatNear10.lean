/- The codes of shares: the question that code.Near asks of each place. Printed by gen_near10.py. -/
import Derived.Test.YtochabikpaoalaaGreatPZed
import Derived.Test.YtochabikpaoalaaGreatBook5
import Derived.Deep.RegionHeld3
import Derived.Deep.DrawnRows
import Derived.Deep.DeepCutAuto
namespace Go.Proofs.YtochabikpaoalaaGreat
open Go.RowKit
attribute [local go_sem ↓] Go.wp_at_zero Go.wp_at_succ

theorem Blk.cells1 {w : World} {g : Nat} {t : TypeId} {a : Value} (h : Blk w g t #[a]) : w.cell? ⟨g, 0, none⟩ = some a := h.cell 0
theorem IsI.form {w : World} {v : Value} {l : List Int} (h : IsI w v l) : ∃ A C, v = .slice A l.length C ∧ l.length ≤ C ∧ C ≤ 9223372036854775807 := by obtain ⟨A, C, e, h1, h2, _⟩ := h; exact ⟨A, C, e, h1, h2⟩
theorem IsI.at_ {w : World} {A : Option Addr} {n C k : Nat} {l : List Int} (h : IsI w (.slice A n C) l) (hk : k < l.length) : ∃ ad, A = some ad ∧ w.cell? (ad.add k) = some (.int .i64 (iat l k)) := by
  obtain ⟨A', c', e, _, _, r⟩ := h
  injection e with e1 e2 e3
  subst e1 e2 e3
  obtain ⟨ad, e, _, h⟩ := is_cell r hk
  exact ⟨ad, e, h⟩
theorem cellB {w w' : World} {a : Addr} {v : Value} (h : Below w.heap.size w w') (hc : w.cell? a = some v) : w'.cell? a = some v := (h.cell (World.block_lt_of_cell? w _ hc)).trans hc
set_option maxRecDepth 100000 in
set_option maxHeartbeats 4000000 in
theorem near1_any (l : List Int) (hl : l.length = 256) (hin : ∀ j, -2560000000 ≤ iat l j ∧ iat l j ≤ 2560000000) (d x : Int) (hd0 : -9223372036854775808 ≤ d) (hd1 : d ≤ 9223372036854775807)
    (b8 b10 b11 : Nat) (A : Option Addr) (C : Nat) (Ad Ax : Option Addr) (Ld Lx Cd Cx : Nat) (i : Nat) (hi : i < 255) (w : World) (hb : b8 < w.heap.size ∧ b10 < w.heap.size ∧ b11 < w.heap.size)
    (h8 : Blk w b8 34 #[.slice A 256 C]) (hL : IsI w (.slice A 256 C) l)
    (h11 : Blk w b11 78 #[.bool (decide (d < 0)), .slice Ad Ld Cd]) (hD : IsN w (.slice Ad Ld Cd) d.natAbs)
    (h10 : Blk w b10 78 #[.bool (decide (x < 0)), .slice Ax Lx Cx]) (hX : IsN w (.slice Ax Lx Cx) x.natAbs) :
    Calls Tryz.prog 63 #[.int .i64 i, .pointer (some ⟨b8, 0, none⟩), .pointer (some ⟨b11, 0, none⟩), .pointer (some ⟨b10, 0, none⟩)] w fun e w' => e = .returned (.bool (decide (cmpI x ((iat l i + iat l (i + 1)) * d) ≤ 0))) ∧ Below w.heap.size w w' := by
  obtain ⟨ad, rfl, ca⟩ := hL.at_ (k := i) (by omega)
  obtain ⟨_, e, cb⟩ := hL.at_ (k := i + 1) (by omega)
  cases e
  rw [Addr.add, if_neg (by omega)] at cb
  obtain ⟨i1, i2⟩ := hin i
  obtain ⟨i3, i4⟩ := hin (i + 1)
  generalize iat l i = va at *
  generalize iat l (i + 1) = vb at *
  have hO := fun w => pzof_any (va + vb) (by omega) (by omega) w
  have sa : Sz (va + vb).natAbs 400000 := (Sz.u64 (by unfold W64; omega)).more (by omega)
  have sd : Sz d.natAbs 400000 := (Sz.u64 (by unfold W64; omega)).more (by omega)
  have hM := fun u v w h1 h2 => pzmul_any u v (va + vb) d w h1 h2 sa sd
  have hDZ : IsZ w (.agg #[.bool (decide (d < 0)), .slice Ad Ld Cd]) d := ⟨_, rfl, hD⟩
  have hXZ : IsZ w (.agg #[.bool (decide (x < 0)), .slice Ax Lx Cx]) x := ⟨_, rfl, hX⟩
  have hC := fun u v w h1 h2 => pzcmp_any u v x ((va + vb) * d) w h1 h2
  have hw2 : IntKind.i64.wrap ((i : Int) + 1) = (i : Int) + 1 := by rw [IntKind.wrap_i64]; omega
  have hz : cmpI x ((va + vb) * d) = -1 ∨ cmpI x ((va + vb) * d) = 0 ∨ cmpI x ((va + vb) * d) = 1 := by unfold cmpI; split <;> (try split) <;> simp
  generalize hs : va + vb = s at *
  have hw : IntKind.i64.wrap (va + vb) = s := by rw [IntKind.wrap_i64]; omega
  generalize hm : s * d = m at *
  generalize decide (d < 0) = sgd at *
  generalize decide (x < 0) = sgx at *
  generalize cmpI x m = c at *
  clear hs hm sa sd i1 i2 i3 i4 hin hd0 hd1 hX hD
  have g0 : (0 : Int) ≤ (i : Int) := by omega
  have g1 : (i : Int) < 256 := by omega
  have g2 : (i : Int) + 1 < 256 := by omega
  have g5 : (0 : Int) ≤ (i : Int) + 1 := by omega
  have g3 : (0 : Int) ≤ ((i + 1 : Nat) : Int) := by omega
  have g4 : ((i + 1 : Nat) : Int) < 256 := by omega
  have c80 := h8.cells1
  obtain ⟨c110, c111⟩ := h11.cells2
  obtain ⟨c100, c101⟩ := h10.cells2
  go_enter Tryz.func63, Tryz.ntmps63
  go_upto_region 1 with fail
  go_cut [6] (fun s wx => ∃ Z A1 L1 C1, s = .pointer (some ⟨Z, 0, none⟩) ∧ Blk wx Z 78 #[.bool (decide (m < 0)), .slice A1 L1 C1] ∧ IsN wx (.slice A1 L1 C1) m.natAbs ∧ Below w.heap.size w wx)
  case first =>
    go_region_held3 (fun w' => w'.cell? ⟨b8, 0, none⟩ = some (.slice (some ad) 256 C) ∧ w'.cell? (ad.add i) = some (.int .i64 va) ∧ w'.cell? ⟨ad.block, ad.off + (i + 1), none⟩ = some (.int .i64 vb) ∧ w'.cell? ⟨b11, 0, none⟩ = some (.bool sgd) ∧ w'.cell? ⟨b11, 1, none⟩ = some (.slice Ad Ld Cd))
      ((first | exact ⟨cellB (by first | assumption | exact bdrew _ | exact Below.refl _ _ | exact balloc (bdrew _) _ | exact balloc (by assumption) _ | exact balloc (Below.refl _ _) _ | exact bset (bset (by assumption) (by first | assumption | exact Nat.le_refl _) _) (by first | assumption | exact Nat.le_refl _) _) c80, cellB (by first | assumption | exact bdrew _ | exact Below.refl _ _ | exact balloc (bdrew _) _ | exact balloc (by assumption) _ | exact balloc (Below.refl _ _) _ | exact bset (bset (by assumption) (by first | assumption | exact Nat.le_refl _) _) (by first | assumption | exact Nat.le_refl _) _) ca, cellB (by first | assumption | exact bdrew _ | exact Below.refl _ _ | exact balloc (bdrew _) _ | exact balloc (by assumption) _ | exact balloc (Below.refl _ _) _ | exact bset (bset (by assumption) (by first | assumption | exact Nat.le_refl _) _) (by first | assumption | exact Nat.le_refl _) _) cb, cellB (by first | assumption | exact bdrew _ | exact Below.refl _ _ | exact balloc (bdrew _) _ | exact balloc (by assumption) _ | exact balloc (Below.refl _ _) _ | exact bset (bset (by assumption) (by first | assumption | exact Nat.le_refl _) _) (by first | assumption | exact Nat.le_refl _) _) c110, cellB (by first | assumption | exact bdrew _ | exact Below.refl _ _ | exact balloc (bdrew _) _ | exact balloc (by assumption) _ | exact balloc (Below.refl _ _) _ | exact bset (bset (by assumption) (by first | assumption | exact Nat.le_refl _) _) (by first | assumption | exact Nat.le_refl _) _) c111⟩ | exact ⟨c80, ca, cb, c110, c111⟩))
      (first
        | (go_at_call 61; (with_reducible refine (hO _).mono ?_); rintro e w1 ⟨v1, rfl, h1, b1⟩; (first | ((first | have hXX := newX b1 w (by first | assumption | exact bdrew _) | have hXX := newX (undrew b1) w (by first | exact Below.refl _ _ | assumption)); obtain ⟨hZ, sZ⟩ := hXX; try simp only [World.size_drew] at hZ sZ) | (have hZ := hZ.below b1 hZ.lt) | skip); have B1 := bstep (a := w) (by first | assumption | exact bdrew _ | exact Below.refl _ _ | exact balloc (bdrew _) _ | exact balloc (by assumption) _ | exact balloc (Below.refl _ _) _ | exact bset (bset (by assumption) (by first | assumption | exact Nat.le_refl _) _) (by first | assumption | exact Nat.le_refl _) _) b1)
        | (go_at_call 60; (with_reducible refine (hM _ _ _ ?_ ?_).mono ?_); exact h1.below (by first | exact Below.refl _ _ | exact balloc (Below.refl _ _) _ | exact bdrew _ | exact (balloc (Below.refl _ _) _).drew); exact hDZ.below (by first | assumption | exact bdrew _ | exact Below.refl _ _ | exact balloc (bdrew _) _ | exact balloc (by assumption) _ | exact balloc (Below.refl _ _) _ | exact bset (bset (by assumption) (by first | assumption | exact Nat.le_refl _) _) (by first | assumption | exact Nat.le_refl _) _); rintro e w2 ⟨v2, rfl, ⟨n2, rfl, h2⟩, b2⟩; (first | ((first | have hXX := newX b2 w (by first | assumption | exact bdrew _) | have hXX := newX (undrew b2) w (by first | exact Below.refl _ _ | assumption)); obtain ⟨hZ, sZ⟩ := hXX; try simp only [World.size_drew] at hZ sZ) | (have hZ := hZ.below b2 hZ.lt) | skip); obtain ⟨A2, L2, C2, rfl⟩ := h2.frm; have B2 := bstep (a := w) (by first | assumption | exact bdrew _ | exact Below.refl _ _ | exact balloc (bdrew _) _ | exact balloc (by assumption) _ | exact balloc (Below.refl _ _) _ | exact bset (bset (by assumption) (by first | assumption | exact Nat.le_refl _) _) (by first | assumption | exact Nat.le_refl _) _) b2; (try (obtain ⟨z0, z1⟩ := hZ.cells2; have y0 := hZ.frozen 0; have y1 := hZ.frozen 1))))
    all_goals (go_wp2_with fail; go_meet)
    all_goals
      first
        | exact ⟨_, _, _, _, rfl, Blk.new _ _ _, h2.below (balloc (Below.refl _ _) _), balloc B2 _⟩
        | (obtain ⟨p1, p2, p3⟩ := put2 hZ (.bool (decide (m < 0))) (.slice A2 L2 C2) (by simp [noU]) B2 (by first | assumption | exact Nat.le_refl _)
           exact ⟨_, _, _, _, rfl, p1, p2 _ _ h2, p3⟩)
  obtain ⟨Z, A1, L1, C1, rfl, hZ, hN, bz⟩ := hcut
  have hX2 := hXZ.below bz
  have h10 := h10.below bz hb.2.1
  obtain ⟨e0, e1⟩ := hZ.cells2
  obtain ⟨e2, e3⟩ := h10.cells2
  rcases hz with rfl | rfl | rfl
  all_goals
    go_wp2_with fail
    refine (hC _ _ _ hX2 ⟨_, rfl, hN⟩).mono ?_
    rintro e w3 ⟨rfl, b3⟩
    go_wp2
    go_ret
    exact ⟨rfl, bz.trans (b3.mono bz.size)⟩
end Go.Proofs.YtochabikpaoalaaGreat
