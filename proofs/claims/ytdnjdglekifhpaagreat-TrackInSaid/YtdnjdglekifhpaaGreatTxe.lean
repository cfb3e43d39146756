/- A part of the proof of: The live question of layer 20. Printed by gen_alive20.py. -/
import Derived.Deep.LoopGhost
import Derived.Test.YtdnjdglekifhpaaGreatTxd
namespace Go.Proofs.YtdnjdglekifhpaaGreat
open Go.RowKit
theorem ddivmod_any (va vb : Value) (a b : Nat) (w : World) (ha : IsN w va a) (hb : IsN w vb b) (sa : Sz a 100000) (_sb : Sz b 100000) (h0 : 0 < b) :
    Calls Tryz.prog 148 #[va, vb] w fun e w' => ∃ q r, e = .returned (.tuple #[q, r, .int .i64 0]) ∧ IsN w' q (a / b) ∧ IsN w' r (a % b) ∧ Below w.heap.size w w' :=
  (dm_any va vb a b h0 w ha hb (sa.fin (by omega))).mono fun _ _ ⟨q, r, h1, h2, h3, _, h5⟩ => ⟨q, r, h1, h2, h3, h5⟩
set_option maxHeartbeats 1000000 in
theorem dgcd_any (va vb : Value) (a b : Nat) (w : World) (ha : IsN w va a) (hb : IsN w vb b) (sa : Sz a 100000) (sb : Sz b 100000) :
    Calls Tryz.prog 178 #[va, vb] w fun e w' => ∃ v', e = .returned v' ∧ IsN w' v' (Nat.gcd a b) ∧ Below w.heap.size w w' := by
  obtain ⟨d, hd⟩ : ∃ d, d = Nat.gcd a b := ⟨_, rfl⟩
  have HD := Lib.hid hd
  rw [← hd]
  clear hd
  go_enter Tryz.func178, Tryz.ntmps178
  go_wp2
  go_loopg [0, 1] b (fun k x y wr => ∃ (n : Nat), IsN wr x n ∧ IsN wr y k ∧ Sz n 100000 ∧ Sz k 100000 ∧ Hid (Nat.gcd n k = d) ∧ Below w.heap.size w wr)
  case atStart => exact ⟨a, ha, hb, sa, sb, Lib.hid HD.out.symm, Below.refl _ _⟩
  case round =>
    obtain ⟨n, hx, hy, sx, sy, hg, hB⟩ := hrel
    by_cases h0 : gk = 0
    · subst h0
      obtain ⟨A, c, rfl⟩ := (show ∃ A c, u1 = .slice A 0 c by unfold IsN at hy; rw [limbs_zero] at hy; obtain ⟨A, c, e, _⟩ := hy; exact ⟨A, c, e⟩)
      go_wp2
      go_ret
      exact ⟨_, rfl, by have := hg.out; rw [Nat.gcd_zero_right] at this; rw [← this]; exact hx, hB⟩
    · have hp : 0 < gk := Nat.pos_of_ne_zero h0
      have hL : 0 < (limbs gk).length := by
        rcases Nat.eq_zero_or_pos (limbs gk).length with e | e
        · exact absurd (limbs_nil.1 (List.eq_nil_of_length_eq_zero e)) h0
        · exact e
      have hD := ddivmod_any u0 u1 n gk wr hx hy sx sy hp
      obtain ⟨A, L, c, rfl, hLe⟩ := hy.open_
      rw [← hLe] at hL
      have HLe := Lib.hid hLe
      have H0 := Lib.hid h0
      clear hLe h0
      go_wp2_with fail
      refine hD.mono ?_
      rintro e w1 ⟨q, r, rfl, hq, hr, b1⟩
      have hy := hy.below b1
      have hB := hB.trans (b1.mono hB.size)
      clear hD hx b1
      go_wp2
      go_roundg (n % gk)
      case rel => exact ⟨gk, hy, hr, sy, sx.le (Nat.mod_le _ _), Lib.hid (by rw [← hg.out, Nat.gcd_comm gk, Nat.gcd_comm n, Nat.gcd_rec gk n]), hB⟩
      case measure => exact Nat.mod_lt _ hp
attribute [local go_sem ↓] Go.wp_at_zero Go.wp_at_succ
set_option maxHeartbeats 2000000 in
theorem prmake_any (vp vq : Value) (p : Int) (q : Nat) (w : World) (hp : IsZ w vp p) (hq : IsN w vq q) (sp : Sz p.natAbs 100000) (sq : Sz q 100000) (h0 : 0 < q) :
    Calls Tryz.prog 120 #[vp, vq] w fun e w' => ∃ v', e = .returned (.tuple #[v', .int .i64 0]) ∧ IsQ w' v' (mkRat p q) ∧ Below w.heap.size w w' := by
  obtain ⟨np, rfl, hp⟩ := hp
  obtain ⟨m1, m2, m3⟩ := mk_num p q (by omega)
  have hgp : 0 < Nat.gcd p.natAbs q := Nat.gcd_pos_of_pos_right _ h0
  have hG := fun w hp hq => dgcd_any np vq p.natAbs q w hp hq sp sq
  have hD1 := fun v w hp hg => ddivmod_any np v p.natAbs (Nat.gcd p.natAbs q) w hp hg sp (sq.le (Nat.gcd_le_right _ h0)) hgp
  have hD2 := fun v w hp hg => ddivmod_any vq v q (Nat.gcd p.natAbs q) w hp hg sq (sq.le (Nat.gcd_le_right _ h0)) hgp
  rw [← m1] at hD1
  rw [← m2] at hD2
  rw [← m3] at *
  generalize mkRat p q = r at *
  generalize Nat.gcd p.natAbs q = d at *
  generalize p.natAbs = x at *
  obtain ⟨Aq, Lq, Cq, rfl, hLq⟩ := hq.pos h0
  have hl1 : ((Lq : Int) == 0) = false := by simp; omega
  have hl2 : decide (Lq = 0) = false := by simp; omega
  clear m1 m2 m3 hLq h0 hgp sp sq
  obtain ⟨W0, hW, hT, hB⟩ := box2 w 30 32 #[.bool (decide (r.num < 0)), np] #[.bool false, .slice none 0 0, .slice none 0 0]
  obtain ⟨g, hg⟩ : ∃ g, g = w.heap.size := ⟨_, rfl⟩
  have hW' := Lib.hid (And.intro hW hg)
  rw [← hg] at hT
  clear hW hg
  have hp := hp.below hB
  have hq := hq.below hB
  obtain ⟨q00, q01⟩ := hT.1.cells2
  go_enter Tryz.func120, Tryz.ntmps120
  go_wp2_with fail
  rw [← hW'.out.1, ← hW'.out.2]
  refine (hG _ hp hq).mono ?_
  rintro e w1 ⟨v1, rfl, h1, b1⟩
  have hT := hT.below b1 hT.lt
  have hB := hB.trans (b1.mono hB.size)
  have hp := hp.below b1
  have hq := hq.below b1
  obtain ⟨q00, q01⟩ := hT.1.cells2
  go_wp2_with fail
  refine (hD1 _ _ hp h1).mono ?_
  rintro e w2 ⟨v2, r2, rfl, h2, hr2, b2⟩
  have hT := hT.below b2 hT.lt
  have hB := hB.trans (b2.mono hB.size)
  have h1 := h1.below b2
  have hq := hq.below b2
  obtain ⟨q00, q01⟩ := hT.1.cells2
  go_wp2_with fail
  refine (hD2 _ _ hq h1).mono ?_
  rintro e w3 ⟨v3, r3, rfl, h3, hr3, b3⟩
  have hT := hT.below b3 hT.lt
  have hB := hB.trans (b3.mono hB.size)
  have h2 := h2.below b3
  obtain ⟨q00, q01⟩ := hT.1.cells2
  have hR := hT.2
  obtain ⟨A2, L2, C2, rfl⟩ := h2.frm
  obtain ⟨A3, L3, C3, rfl⟩ := h3.frm
  obtain ⟨p1, p2, p3⟩ := put3 hR (.bool (decide (r.num < 0))) (.slice A2 L2 C2) (.slice A3 L3 C3) (by simp [noU]) hB (by rw [hW'.out.2]; omega)
  have q0 := hR.cell 0
  have z0 := hR.frozen 0
  have q1 := hR.cell 1
  have z1 := hR.frozen 1
  have q2 := hR.cell 2
  have z2 := hR.frozen 2
  have P := Lib.hid (And.intro (⟨_, _, rfl, p2 _ _ h2, p2 _ _ h3⟩ : IsQ _ (.agg #[.bool (decide (r.num < 0)), .slice A2 L2 C2, .slice A3 L3 C3]) r) (And.intro p3 p1.cells3))
  clear p1 p2 p3 hG hD1 hD2
  go_wp2
  obtain ⟨P1, P2, P3, P4, P5⟩ := P.out
  exact bodyPost_ret (v := .tuple #[.agg #[.bool (decide (r.num < 0)), .slice A2 L2 C2, .slice A3 L3 C3], .int .i64 0]) (by simp [results, Tryz.results120, go_sem, P3, P4, P5]) rfl ⟨_, rfl, P1, P2⟩
set_option maxHeartbeats 2000000 in
theorem pof_any (n : Int) (h0 : -9223372036854775808 ≤ n) (h1 : n ≤ 9223372036854775807) (w : World) :
    Calls Tryz.prog 55 #[.int .i64 n] w fun e w' => ∃ v', e = .returned v' ∧ IsQ w' v' (n : Rat) ∧ Below w.heap.size w w' := by
  have hZ := fun w => pzof_any n h0 h1 w
  have hO := fun w => of_any 1 (by unfold W64; omega) w
  obtain ⟨c, hc⟩ : ∃ c, c = n := ⟨_, rfl⟩
  have KEY : Hid (∀ w' b a d, IsN w' a c.natAbs → IsN w' d 1 → b = decide (c < 0) → IsQ w' (.agg #[.bool b, a, d]) (n : Rat)) := by
    rw [hc]; rintro w' b a d h1 h2 rfl; exact ⟨a, d, rfl, h1, h2⟩
  have hZ := fun w => (show Calls Tryz.prog 118 #[.int .i64 n] w fun e w' => ∃ v', e = .returned v' ∧ IsZ w' v' c ∧ Below w.heap.size w w' by rw [hc]; exact hZ w)
  clear hc
  obtain ⟨W0, hW, hR, hB⟩ := box1 w 32 #[.bool false, .slice none 0 0, .slice none 0 0]
  obtain ⟨g, hg⟩ : ∃ g, g = w.heap.size := ⟨_, rfl⟩
  have hW' := Lib.hid (And.intro hW hg)
  rw [← hg] at hR
  clear hW hg
  go_enter Tryz.func55, Tryz.ntmps55
  go_wp2_with fail
  rw [← hW'.out.1, ← hW'.out.2]
  refine (hZ _).mono ?_
  rintro e w1 ⟨v1, rfl, ⟨n1, rfl, h1⟩, b1⟩
  have hR := hR.below b1 hR.lt
  have hB := hB.trans (b1.mono hB.size)
  go_wp2_with fail
  refine (hO _).mono ?_
  rintro e w2 ⟨v2, rfl, h2, b2⟩
  have hR := hR.below b2 hR.lt
  have hB := hB.trans (b2.mono hB.size)
  have h1 := h1.below b2
  obtain ⟨A2, L2, C2, rfl⟩ := h1.frm
  obtain ⟨A3, L3, C3, rfl⟩ := h2.frm
  obtain ⟨p1, p2, p3⟩ := put3 hR (.bool (decide (c < 0))) (.slice A2 L2 C2) (.slice A3 L3 C3) (by simp [noU]) hB (by rw [hW'.out.2]; omega)
  have q0 := hR.cell 0
  have z0 := hR.frozen 0
  have q1 := hR.cell 1
  have z1 := hR.frozen 1
  have q2 := hR.cell 2
  have z2 := hR.frozen 2
  have P := Lib.hid (And.intro (KEY.out _ _ _ _ (p2 _ _ h1) (p2 _ _ h2) rfl) (And.intro p3 p1.cells3))
  clear p1 p2 p3 hZ hO
  go_wp2
  obtain ⟨P1, P2, P3, P4, P5⟩ := P.out
  exact bodyPost_ret (v := .agg #[.bool (decide (c < 0)), .slice A2 L2 C2, .slice A3 L3 C3]) (by simp [results, Tryz.results55, go_sem, P3, P4, P5]) rfl ⟨_, rfl, P1, P2⟩
set_option maxHeartbeats 2000000 in
theorem prtimes_any (vp vq : Value) (p : Int) (q : Nat) (w : World) (hp : IsZ w vp p) (hq : IsN w vq q) (sp : Sz p.natAbs 400000) (sq : Sz q 400000) :
    Calls Tryz.prog 183 #[vp, vq] w fun e w' => ∃ v', e = .returned v' ∧ IsZ w' v' (p * (q : Int)) ∧ Below w.heap.size w w' := by
  have hM := fun w va vb ha hb => pzmul_any va vb p (q : Int) w ha hb sp (by simpa using sq)
  have hZ : ∀ w, IsN w vq q → IsZ w (.agg #[.bool false, vq]) (q : Int) := fun w h => ⟨vq, by rw [decide_eq_false (by omega)], by simpa using h⟩
  have hp0 := hp
  obtain ⟨np, rfl, hp⟩ := hp
  obtain ⟨Aq, Lq, Cq, rfl⟩ := hq.frm
  obtain ⟨Ap, Lp, Cp, rfl⟩ := hp.frm
  obtain ⟨c, hc⟩ : ∃ c, c = p * (q : Int) := ⟨_, rfl⟩
  rw [← hc] at hM ⊢
  have HZ := Lib.hid hZ
  clear hc hZ sp sq
  generalize decide (p < 0) = b at *
  obtain ⟨W0, hW, hT, hB⟩ := box2 w 30 30 #[.bool b, .slice Ap Lp Cp] #[.bool false, .slice none 0 0]
  obtain ⟨g, hg⟩ : ∃ g, g = w.heap.size := ⟨_, rfl⟩
  have hW' := Lib.hid (And.intro hW hg)
  rw [← hg] at hT
  clear hW hg
  have hp0 := hp0.below hB
  have hq := HZ.out _ (hq.below hB)
  obtain ⟨q00, q01⟩ := hT.1.cells2
  go_enter Tryz.func183, Tryz.ntmps183
  go_wp2_with fail
  rw [← hW'.out.1, ← hW'.out.2]
  refine (hM _ _ _ hp0 hq).mono ?_
  rintro e w1 ⟨v1, rfl, ⟨n1, rfl, h1⟩, b1⟩
  obtain ⟨A2, L2, C2, rfl⟩ := h1.frm
  have hT := hT.below b1 hT.lt
  have hB := hB.trans (b1.mono hB.size)
  have hR := hT.2
  obtain ⟨p1, p2, p3⟩ := put2 hR (.bool (decide (c < 0))) (.slice A2 L2 C2) (by simp [noU]) hB (by rw [hW'.out.2]; omega)
  have q0 := hR.cell 0
  have z0 := hR.frozen 0
  have q1 := hR.cell 1
  have z1 := hR.frozen 1
  have P := Lib.hid (And.intro (⟨_, rfl, p2 _ _ h1⟩ : IsZ _ (.agg #[.bool (decide (c < 0)), .slice A2 L2 C2]) c) (And.intro p3 p1.cells2))
  clear p1 p2 p3 hM
  go_wp2
  obtain ⟨P1, P2, P3, P4⟩ := P.out
  exact bodyPost_ret (v := .agg #[.bool (decide (c < 0)), .slice A2 L2 C2]) (by simp [results, Tryz.results183, go_sem, P3, P4]) rfl ⟨_, rfl, P1, P2⟩
end Go.Proofs.YtdnjdglekifhpaaGreat
namespace Go.Proofs.YtdnjdglekifhpaaGreat
open Go.RowKit
attribute [local go_sem ↓] Go.wp_at_zero Go.wp_at_succ
theorem blk_one {w : World} {g : Nat} {t : TypeId} {a : Value} (h : Blk w g t #[a]) : w.cell? ⟨g, 0, none⟩ = some a := h.cell 0
theorem box4 (w : World) (t0 t1 t2 t3 : TypeId) (c0 c1 c2 c3 : Array Value) : ∃ W, W = (((w.alloc (.cells c0 t0)).alloc (.cells c1 t1)).alloc (.cells c2 t2)).alloc (.cells c3 t3) ∧ Blk W w.heap.size t0 c0 ∧ Two W (w.heap.size + 1) t1 c1 t2 c2 ∧ Blk W (w.heap.size + 1 + 1 + 1) t3 c3 ∧ Below w.heap.size w W := by
  obtain ⟨W, e, h1, h2, h3⟩ := box3 (w.alloc (.cells c0 t0)) t1 t2 t3 c1 c2 c3
  rw [World.size_alloc] at h1 h2 h3
  exact ⟨W, e, (Blk.new w t0 c0).below h3 (by omega), h1, h2, ((Below.refl _ w).alloc (Nat.le_refl _) _).trans (h3.mono (by omega))⟩
set_option maxHeartbeats 8000000 in
theorem pjoin_add (va vb : Value) (a b : Rat) (w : World) (ha : IsQ w va a) (hb : IsQ w vb b) (sa : BQ a 10000) (sb : BQ b 10000) :
    Calls Tryz.prog 125 #[.agg #[.func (.func 124) #[] #[]], va, vb] w fun e w' => ∃ v', e = .returned v' ∧ IsQ w' v' (a + b) ∧ Below w.heap.size w w' := by
  have hda : 0 < a.den := Rat.den_pos a
  have hdb : 0 < b.den := Rat.den_pos b
  obtain ⟨pa, qa, rfl, hpa, hqa⟩ := ha
  have hza : IsZ w (.agg #[.bool (decide (a.num < 0)), pa]) a.num := ⟨_, rfl, hpa⟩
  obtain ⟨pb, qb, rfl, hpb, hqb⟩ := hb
  have hzb : IsZ w (.agg #[.bool (decide (b.num < 0)), pb]) b.num := ⟨_, rfl, hpb⟩
  have hO1 := fun w hp hq => prtimes_any (.agg #[.bool (decide (a.num < 0)), pa]) qb a.num b.den w hp hq (sa.1.more (by omega)) (sb.2.more (by omega))
  have hO2 := fun w hp hq => prtimes_any (.agg #[.bool (decide (b.num < 0)), pb]) qa b.num a.den w hp hq (sb.1.more (by omega)) (sa.2.more (by omega))
  have s1 : Sz (a.num * (b.den : Int)).natAbs 20000 := sa.1.imul (b := (b.den : Int)) (by simpa using sb.2)
  have s2 : Sz (b.num * (a.den : Int)).natAbs 20000 := sb.1.imul (b := (a.den : Int)) (by simpa using sa.2)
  have hA := fun u v w hu hv => pzadd_any u v (a.num * (b.den : Int)) (b.num * (a.den : Int)) w hu hv (s1.more (by omega)) (s2.more (by omega))
  have hM := fun w hu hv => mul_any qa qb a.den b.den w hu hv (sa.2.fin (by omega)) (sb.2.fin (by omega))
  have hK := fun u v w hu hv => prmake_any u v (a.num * (b.den : Int) + b.num * (a.den : Int)) (a.den * b.den) w hu hv ((s1.iadd s2).more (by omega)) ((sa.2.mul sb.2).more (by omega)) (Nat.mul_pos hda hdb)
  rw [← Rat.add_def'] at hK
  obtain ⟨r, hr⟩ : ∃ r, r = a + b := ⟨_, rfl⟩
  rw [← hr] at hK ⊢
  clear hr s1 s2
  generalize a.num * (b.den : Int) + b.num * (a.den : Int) = m3 at *
  generalize a.num * (b.den : Int) = m1 at *
  generalize b.num * (a.den : Int) = m2 at *
  generalize a.den * b.den = d at *
  generalize a.num = na at *
  generalize b.num = nb at *
  generalize a.den = da at *
  generalize b.den = db at *
  clear hpa hpb sa sb hda hdb
  generalize decide (na < 0) = sa at *
  generalize decide (nb < 0) = sb at *
  obtain ⟨W0, hW, hJ, hT, hR, hB⟩ := box4 w 156 32 32 32 #[.func (.func 124) #[] #[]] #[.bool sa, pa, qa] #[.bool sb, pb, qb] #[.bool false, .slice none 0 0, .slice none 0 0]
  obtain ⟨g0, hg⟩ : ∃ g0, g0 = w.heap.size := ⟨_, rfl⟩
  have hW' := Lib.hid (And.intro hW hg)
  rw [← hg] at hJ hT hR
  clear hW hg
  have hza := hza.below hB
  have hzb := hzb.below hB
  have hqa := hqa.below hB
  have hqb := hqb.below hB
  have hgw : w.heap.size ≤ g0 := by rw [hW'.out.2]; omega
  go_enter Tryz.func125, Tryz.ntmps125
  go_upto_region 1 with fail
  rw [← hW'.out.1, ← hW'.out.2]
  go_cut [7] (fun s wx => ∃ (X : Nat) (A1 A2 : Option Addr) (L1 L2 C1 C2 : Nat), s = .pointer (some ⟨X, 0, none⟩) ∧ Blk wx X 32 #[.bool (decide (r.num < 0)), .slice A1 L1 C1, .slice A2 L2 C2] ∧ IsN wx (.slice A1 L1 C1) r.num.natAbs ∧ IsN wx (.slice A2 L2 C2) r.den ∧ Blk wx (g0 + 1 + 1 + 1) 32 #[.bool false, .slice none 0 0, .slice none 0 0] ∧ Below w.heap.size w wx)
  case first =>
    go_region_held3 (fun w' => w'.cell? ⟨g0, 0, none⟩ = some (.func (.func 124) #[] #[]) ∧ w'.cell? ⟨g0 + 1, 0, none⟩ = some (.bool sa) ∧ w'.cell? ⟨g0 + 1, 1, none⟩ = some pa ∧ w'.cell? ⟨g0 + 1, 2, none⟩ = some qa ∧ w'.cell? ⟨g0 + 1 + 1, 0, none⟩ = some (.bool sb) ∧ w'.cell? ⟨g0 + 1 + 1, 1, none⟩ = some pb ∧ w'.cell? ⟨g0 + 1 + 1, 2, none⟩ = some qb) (first | exact ⟨blk_one (hJ.below (by first | assumption | exact balloc (by assumption) _ | exact bdrew _ | exact balloc (bdrew _) _) hJ.lt), Two.cells33 (hT.below (by first | assumption | exact balloc (by assumption) _ | exact bdrew _ | exact balloc (bdrew _) _) hT.lt)⟩ | exact ⟨blk_one (hJ.below (bset (bset (bset (by assumption) (by assumption) _) (by assumption) _) (by assumption) _) hJ.lt), Two.cells33 (hT.below (bset (bset (bset (by assumption) (by assumption) _) (by assumption) _) (by assumption) _) hT.lt)⟩)
      (first
        | (go_at_call 183; (with_reducible refine (hO1 _ ?_ ?_).mono ?_); exact hza.below (by first | assumption | exact balloc (by assumption) _ | exact bdrew _ | exact balloc (bdrew _) _); exact hqb.below (by first | assumption | exact balloc (by assumption) _ | exact bdrew _ | exact balloc (bdrew _) _); rintro x w1 ⟨v1, rfl, h1, b1⟩; (first | ((first | have hXX := newX b1 W0 (by first | assumption | exact bdrew _) | have hXX := newX (undrew b1) W0 (by first | exact Below.refl _ _ | assumption)); obtain ⟨hX, sX⟩ := hXX; try simp only [World.size_drew] at hX sX) | (have hX := hX.below b1 hX.lt) | skip); have B1 := bstep (a := W0) (by first | assumption | exact balloc (by assumption) _ | exact bdrew _ | exact balloc (bdrew _) _) b1)
        | (go_at_call 183; (with_reducible refine (hO2 _ ?_ ?_).mono ?_); exact hzb.below (by first | assumption | exact balloc (by assumption) _ | exact bdrew _ | exact balloc (bdrew _) _); exact hqa.below (by first | assumption | exact balloc (by assumption) _ | exact bdrew _ | exact balloc (bdrew _) _); rintro x w2 ⟨v2, rfl, h2, b2⟩; (first | ((first | have hXX := newX b2 W0 (by first | assumption | exact bdrew _) | have hXX := newX (undrew b2) W0 (by first | exact Below.refl _ _ | assumption)); obtain ⟨hX, sX⟩ := hXX; try simp only [World.size_drew] at hX sX) | (have hX := hX.below b2 hX.lt) | skip); have B2 := bstep (a := W0) (by first | assumption | exact balloc (by assumption) _ | exact bdrew _ | exact balloc (bdrew _) _) b2; have h1 := h1.below (by first | exact b2 | exact bstep (balloc (Below.refl _ _) _) b2))
        | (go_at_call 124; (with_reducible refine (hA _ _ _ ?_ ?_).mono ?_); exact h1.below (by first | exact Below.refl _ _ | exact balloc (Below.refl _ _) _); exact h2.below (by first | exact Below.refl _ _ | exact balloc (Below.refl _ _) _); rintro x w3 ⟨v3, rfl, h3, b3⟩; (first | ((first | have hXX := newX b3 W0 (by first | assumption | exact bdrew _) | have hXX := newX (undrew b3) W0 (by first | exact Below.refl _ _ | assumption)); obtain ⟨hX, sX⟩ := hXX; try simp only [World.size_drew] at hX sX) | (have hX := hX.below b3 hX.lt) | skip); have B3 := bstep (a := W0) (by first | assumption | exact balloc (by assumption) _ | exact bdrew _ | exact balloc (bdrew _) _) b3)
        | (go_at_call 122; (with_reducible refine (hM _ ?_ ?_).mono ?_); exact hqa.below (by first | assumption | exact balloc (by assumption) _ | exact bdrew _ | exact balloc (bdrew _) _); exact hqb.below (by first | assumption | exact balloc (by assumption) _ | exact bdrew _ | exact balloc (bdrew _) _); rintro x w4 ⟨v4, rfl, h4, b4⟩; (first | ((first | have hXX := newX b4 W0 (by first | assumption | exact bdrew _) | have hXX := newX (undrew b4) W0 (by first | exact Below.refl _ _ | assumption)); obtain ⟨hX, sX⟩ := hXX; try simp only [World.size_drew] at hX sX) | (have hX := hX.below b4 hX.lt) | skip); have B4 := bstep (a := W0) (by first | assumption | exact balloc (by assumption) _ | exact bdrew _ | exact balloc (bdrew _) _) b4; have h3 := h3.below (by first | exact b4 | exact bstep (balloc (Below.refl _ _) _) b4))
        | (go_at_call 120; (with_reducible refine (hK _ _ _ ?_ ?_).mono ?_); exact h3.below (by first | exact Below.refl _ _ | exact balloc (Below.refl _ _) _); exact h4.below (by first | exact Below.refl _ _ | exact balloc (Below.refl _ _) _); rintro x w5 ⟨v5, rfl, ⟨n5, d5, rfl, h5, k5⟩, b5⟩; (first | ((first | have hXX := newX b5 W0 (by first | assumption | exact bdrew _) | have hXX := newX (undrew b5) W0 (by first | exact Below.refl _ _ | assumption)); obtain ⟨hX, sX⟩ := hXX; try simp only [World.size_drew] at hX sX) | (have hX := hX.below b5 hX.lt) | skip); have B5 := bstep (a := W0) (by first | assumption | exact balloc (by assumption) _ | exact bdrew _ | exact balloc (bdrew _) _) b5; obtain ⟨A1, L1, C1, rfl⟩ := h5.frm; obtain ⟨A2, L2, C2, rfl⟩ := k5.frm; (try (have x0 := hX.cell 0; have x1 := hX.cell 1; have x2 := hX.cell 2; have y0 := hX.frozen 0; have y1 := hX.frozen 1; have y2 := hX.frozen 2))))
    all_goals (go_wp2_with fail; go_meet)
    all_goals
      have hRlt := hR.lt
      have hR := hR.below B5 hR.lt
      have hB0 := hB
      have hB := hB.trans (B5.mono hB.size)
      have hsz := hT.lt
      first
        | exact ⟨_, _, _, _, _, _, _, rfl, Blk.new _ _ _, h5.below (balloc (Below.refl _ _) _), k5.below (balloc (Below.refl _ _) _), hR.alloc _, hB.alloc hB.size _⟩
        | (obtain ⟨p1, p2, p3⟩ := put3 hX (.bool (decide (r.num < 0))) (.slice A1 L1 C1) (.slice A2 L2 C2) (by simp [noU]) hB (Nat.le_trans hB0.size (by first | assumption | exact Nat.le_refl _))
           exact ⟨_, _, _, _, _, _, _, rfl, p1, p2 _ _ h5, p2 _ _ k5, hR.farX (Nat.ne_of_lt (Nat.lt_of_lt_of_le hRlt (by first | assumption | exact Nat.le_refl _))) _ _ _, p3⟩)
  obtain ⟨X, A1, A2, L1, L2, C1, C2, rfl, hX, h1, h2, hR, hB⟩ := hcut
  obtain ⟨x0, x1, x2⟩ := hX.cells3
  obtain ⟨p1, p2, p3⟩ := put3 hR (.bool (decide (r.num < 0))) (.slice A1 L1 C1) (.slice A2 L2 C2) (by simp [noU]) hB (by omega)
  have q0 := hR.cell 0
  have z0 := hR.frozen 0
  have q1 := hR.cell 1
  have z1 := hR.frozen 1
  have q2 := hR.cell 2
  have z2 := hR.frozen 2
  have P := Lib.hid (And.intro (⟨_, _, rfl, p2 _ _ h1, p2 _ _ h2⟩ : IsQ _ (.agg #[.bool (decide (r.num < 0)), .slice A1 L1 C1, .slice A2 L2 C2]) r) (And.intro p3 p1.cells3))
  clear p1 p2 p3 
  go_wp2
  obtain ⟨P1, P2, P3, P4, P5⟩ := P.out
  exact bodyPost_ret (v := .agg #[.bool (decide (r.num < 0)), .slice A1 L1 C1, .slice A2 L2 C2]) (by simp [results, Tryz.results125, go_sem, P3, P4, P5]) rfl ⟨_, rfl, P1, P2⟩
set_option maxHeartbeats 4000000 in
theorem prsub1_any (va vb : Value) (a b : Int) (w : World) (ha : IsZ w va a) (hb : IsZ w vb b) (sa : Sz a.natAbs 400000) (sb : Sz b.natAbs 400000) :
    Calls Tryz.prog 132 #[va, vb] w fun e w' => ∃ v', e = .returned v' ∧ IsZ w' v' (a - b) ∧ Below w.heap.size w w' := by
  have hNg := fun v w h => pzneg_any v b w h
  have hAd := fun u v w h1 h2 => pzadd_any u v a (-b) w h1 h2 sa (by rw [Int.natAbs_neg]; exact sb)
  rw [show a + -b = a - b from (Int.sub_eq_add_neg).symm] at hAd
  have hav := ha
  have hbv := hb
  obtain ⟨na, rfl, hna⟩ := ha
  obtain ⟨nb, rfl, hnb⟩ := hb
  obtain ⟨Aa, La, Ca, rfl⟩ := hna.frm
  obtain ⟨Ab, Lb, Cb, rfl⟩ := hnb.frm
  generalize a - b = c at *
  clear hna hnb sa sb
  obtain ⟨W0, hW, hT, hR, hB⟩ := box3 w 30 30 30 #[.bool (decide (a < 0)), .slice Aa La Ca] #[.bool (decide (b < 0)), .slice Ab Lb Cb] #[.bool false, .slice none 0 0]
  obtain ⟨g, hg⟩ : ∃ g, g = w.heap.size := ⟨_, rfl⟩
  have hW' := Lib.hid (And.intro hW hg)
  rw [← hg] at hT hR
  have hgw : w.heap.size ≤ g := by omega
  clear hW hg
  obtain ⟨hX, hY⟩ := hT
  replace hav := hav.below hB
  replace hbv := hbv.below hB
  obtain ⟨c1_hX_0, c1_hX_1⟩ := hX.cells2
  obtain ⟨c1_hY_0, c1_hY_1⟩ := hY.cells2
  obtain ⟨c1_hR_0, c1_hR_1⟩ := hR.cells2
  generalize decide (a < 0) = s1 at *
  generalize decide (b < 0) = s2 at *
  go_enter Tryz.func132, Tryz.ntmps132
  go_upto_region 1 with fail
  rw [← hW'.out.1, ← hW'.out.2]
  go_region_held3 (fun w' => w'.cell? ⟨g, 0, none⟩ = some (.bool s1) ∧ w'.cell? ⟨g, 1, none⟩ = some (.slice Aa La Ca) ∧ w'.cell? ⟨g + 1, 0, none⟩ = some (.bool s2) ∧ w'.cell? ⟨g + 1, 1, none⟩ = some (.slice Ab Lb Cb))
    (first | exact Two.cells22 ⟨hX.below (by first | assumption | exact bdrew _ | exact Below.refl _ _ | exact balloc (bdrew _) _ | exact balloc (by assumption) _ | exact balloc (Below.refl _ _) _ | exact bset (bset (by assumption) (by first | assumption | exact Nat.le_refl _) _) (by first | assumption | exact Nat.le_refl _) _) hX.lt, hY.below (by first | assumption | exact bdrew _ | exact Below.refl _ _ | exact balloc (bdrew _) _ | exact balloc (by assumption) _ | exact balloc (Below.refl _ _) _ | exact bset (bset (by assumption) (by first | assumption | exact Nat.le_refl _) _) (by first | assumption | exact Nat.le_refl _) _) hY.lt⟩ | exact Two.cells22 (Two.far2 ⟨hX.below (by first | assumption | exact bdrew _ | exact Below.refl _ _ | exact balloc (bdrew _) _ | exact balloc (by assumption) _ | exact balloc (Below.refl _ _) _ | exact bset (bset (by assumption) (by first | assumption | exact Nat.le_refl _) _) (by first | assumption | exact Nat.le_refl _) _) hX.lt, hY.below (by first | assumption | exact bdrew _ | exact Below.refl _ _ | exact balloc (bdrew _) _ | exact balloc (by assumption) _ | exact balloc (Below.refl _ _) _ | exact bset (bset (by assumption) (by first | assumption | exact Nat.le_refl _) _) (by first | assumption | exact Nat.le_refl _) _) hY.lt⟩ _ _))
    (first
      | (go_at_call 133; (with_reducible refine (hNg _ _ ?_).mono ?_); exact hbv.below (by first | assumption | exact bdrew _ | exact Below.refl _ _ | exact balloc (bdrew _) _ | exact balloc (by assumption) _ | exact balloc (Below.refl _ _) _ | exact bset (bset (by assumption) (by first | assumption | exact Nat.le_refl _) _) (by first | assumption | exact Nat.le_refl _) _); rintro e w1 ⟨v1, rfl, h1, b1⟩; have B1 := bstep (a := W0) (by first | assumption | exact bdrew _ | exact Below.refl _ _ | exact balloc (bdrew _) _ | exact balloc (by assumption) _ | exact balloc (Below.refl _ _) _ | exact bset (bset (by assumption) (by first | assumption | exact Nat.le_refl _) _) (by first | assumption | exact Nat.le_refl _) _) b1)
      | (go_at_call 124; (with_reducible refine (hAd _ _ _ ?_ ?_).mono ?_); exact hav.below (by first | assumption | exact bdrew _ | exact Below.refl _ _ | exact balloc (bdrew _) _ | exact balloc (by assumption) _ | exact balloc (Below.refl _ _) _ | exact bset (bset (by assumption) (by first | assumption | exact Nat.le_refl _) _) (by first | assumption | exact Nat.le_refl _) _); exact h1.below (by first | exact Below.refl _ _ | exact balloc (Below.refl _ _) _ | exact bdrew _ | exact (balloc (Below.refl _ _) _).drew); rintro e w2 ⟨v2, rfl, ⟨n2, rfl, h2⟩, b2⟩; obtain ⟨A2, L2, C2, rfl⟩ := h2.frm; have B2 := bstep (a := W0) (by first | assumption | exact bdrew _ | exact Below.refl _ _ | exact balloc (bdrew _) _ | exact balloc (by assumption) _ | exact balloc (Below.refl _ _) _ | exact bset (bset (by assumption) (by first | assumption | exact Nat.le_refl _) _) (by first | assumption | exact Nat.le_refl _) _) b2; have hR2 := hR.below B2 hR.lt; obtain ⟨q0, q1⟩ := hR2.cells2; have z0 := hR2.frozen 0; have z1 := hR2.frozen 1))
  all_goals
    have hB2 := hB.trans (B2.mono hB.size)
    obtain ⟨p1, p2, p3⟩ := put2 hR2 (.bool (decide (c < 0))) (.slice A2 L2 C2) (by simp [noU]) hB2 (by omega)
    have P := Lib.hid (And.intro (p2 _ _ h2) (And.intro p3 p1.cells2))
    clear p1 p2 p3
    go_wp2
    obtain ⟨P1, P2, P3, P4⟩ := P.out
    exact bodyPost_ret (v := .agg #[.bool (decide (c < 0)), .slice A2 L2 C2]) (by simp [results, Tryz.results132, go_sem, P3, P4]) rfl ⟨_, rfl, ⟨_, rfl, P1⟩, P2⟩
theorem Sz.isub {a b : Int} {k m : Nat} (ha : Sz a.natAbs k) (hb : Sz b.natAbs m) : Sz (a - b).natAbs (k + m + 1) := by
  rw [Int.sub_eq_add_neg]; exact ha.iadd (by rw [Int.natAbs_neg]; exact hb)
theorem sub_mk (a b : Rat) : a - b = mkRat (a.num * (b.den : Int) - b.num * (a.den : Int)) (a.den * b.den) := by
  rw [Rat.sub_eq_add_neg, Rat.add_def', Rat.neg_num, Rat.neg_den, Int.neg_mul, ← Int.sub_eq_add_neg]
set_option maxHeartbeats 8000000 in
theorem pjoin_sub (va vb : Value) (a b : Rat) (w : World) (ha : IsQ w va a) (hb : IsQ w vb b) (sa : BQ a 10000) (sb : BQ b 10000) :
    Calls Tryz.prog 125 #[.agg #[.func (.func 132) #[] #[]], va, vb] w fun e w' => ∃ v', e = .returned v' ∧ IsQ w' v' (a - b) ∧ Below w.heap.size w w' := by
  have hda : 0 < a.den := Rat.den_pos a
  have hdb : 0 < b.den := Rat.den_pos b
  obtain ⟨pa, qa, rfl, hpa, hqa⟩ := ha
  have hza : IsZ w (.agg #[.bool (decide (a.num < 0)), pa]) a.num := ⟨_, rfl, hpa⟩
  obtain ⟨pb, qb, rfl, hpb, hqb⟩ := hb
  have hzb : IsZ w (.agg #[.bool (decide (b.num < 0)), pb]) b.num := ⟨_, rfl, hpb⟩
  have hO1 := fun w hp hq => prtimes_any (.agg #[.bool (decide (a.num < 0)), pa]) qb a.num b.den w hp hq (sa.1.more (by omega)) (sb.2.more (by omega))
  have hO2 := fun w hp hq => prtimes_any (.agg #[.bool (decide (b.num < 0)), pb]) qa b.num a.den w hp hq (sb.1.more (by omega)) (sa.2.more (by omega))
  have s1 : Sz (a.num * (b.den : Int)).natAbs 20000 := sa.1.imul (b := (b.den : Int)) (by simpa using sb.2)
  have s2 : Sz (b.num * (a.den : Int)).natAbs 20000 := sb.1.imul (b := (a.den : Int)) (by simpa using sa.2)
  have hA := fun u v w hu hv => prsub1_any u v (a.num * (b.den : Int)) (b.num * (a.den : Int)) w hu hv (s1.more (by omega)) (s2.more (by omega))
  have hM := fun w hu hv => mul_any qa qb a.den b.den w hu hv (sa.2.fin (by omega)) (sb.2.fin (by omega))
  have hK := fun u v w hu hv => prmake_any u v (a.num * (b.den : Int) - b.num * (a.den : Int)) (a.den * b.den) w hu hv ((s1.isub s2).more (by omega)) ((sa.2.mul sb.2).more (by omega)) (Nat.mul_pos hda hdb)
  rw [← sub_mk] at hK
  obtain ⟨r, hr⟩ : ∃ r, r = a - b := ⟨_, rfl⟩
  rw [← hr] at hK ⊢
  clear hr s1 s2
  generalize a.num * (b.den : Int) - b.num * (a.den : Int) = m3 at *
  generalize a.num * (b.den : Int) = m1 at *
  generalize b.num * (a.den : Int) = m2 at *
  generalize a.den * b.den = d at *
  generalize a.num = na at *
  generalize b.num = nb at *
  generalize a.den = da at *
  generalize b.den = db at *
  clear hpa hpb sa sb hda hdb
  generalize decide (na < 0) = sa at *
  generalize decide (nb < 0) = sb at *
  obtain ⟨W0, hW, hJ, hT, hR, hB⟩ := box4 w 156 32 32 32 #[.func (.func 132) #[] #[]] #[.bool sa, pa, qa] #[.bool sb, pb, qb] #[.bool false, .slice none 0 0, .slice none 0 0]
  obtain ⟨g0, hg⟩ : ∃ g0, g0 = w.heap.size := ⟨_, rfl⟩
  have hW' := Lib.hid (And.intro hW hg)
  rw [← hg] at hJ hT hR
  clear hW hg
  have hza := hza.below hB
  have hzb := hzb.below hB
  have hqa := hqa.below hB
  have hqb := hqb.below hB
  have hgw : w.heap.size ≤ g0 := by rw [hW'.out.2]; omega
  go_enter Tryz.func125, Tryz.ntmps125
  go_upto_region 1 with fail
  rw [← hW'.out.1, ← hW'.out.2]
  go_cut [7] (fun s wx => ∃ (X : Nat) (A1 A2 : Option Addr) (L1 L2 C1 C2 : Nat), s = .pointer (some ⟨X, 0, none⟩) ∧ Blk wx X 32 #[.bool (decide (r.num < 0)), .slice A1 L1 C1, .slice A2 L2 C2] ∧ IsN wx (.slice A1 L1 C1) r.num.natAbs ∧ IsN wx (.slice A2 L2 C2) r.den ∧ Blk wx (g0 + 1 + 1 + 1) 32 #[.bool false, .slice none 0 0, .slice none 0 0] ∧ Below w.heap.size w wx)
  case first =>
    go_region_held3 (fun w' => w'.cell? ⟨g0, 0, none⟩ = some (.func (.func 132) #[] #[]) ∧ w'.cell? ⟨g0 + 1, 0, none⟩ = some (.bool sa) ∧ w'.cell? ⟨g0 + 1, 1, none⟩ = some pa ∧ w'.cell? ⟨g0 + 1, 2, none⟩ = some qa ∧ w'.cell? ⟨g0 + 1 + 1, 0, none⟩ = some (.bool sb) ∧ w'.cell? ⟨g0 + 1 + 1, 1, none⟩ = some pb ∧ w'.cell? ⟨g0 + 1 + 1, 2, none⟩ = some qb) (first | exact ⟨blk_one (hJ.below (by first | assumption | exact balloc (by assumption) _ | exact bdrew _ | exact balloc (bdrew _) _) hJ.lt), Two.cells33 (hT.below (by first | assumption | exact balloc (by assumption) _ | exact bdrew _ | exact balloc (bdrew _) _) hT.lt)⟩ | exact ⟨blk_one (hJ.below (bset (bset (bset (by assumption) (by assumption) _) (by assumption) _) (by assumption) _) hJ.lt), Two.cells33 (hT.below (bset (bset (bset (by assumption) (by assumption) _) (by assumption) _) (by assumption) _) hT.lt)⟩)
      (first
        | (go_at_call 183; (with_reducible refine (hO1 _ ?_ ?_).mono ?_); exact hza.below (by first | assumption | exact balloc (by assumption) _ | exact bdrew _ | exact balloc (bdrew _) _); exact hqb.below (by first | assumption | exact balloc (by assumption) _ | exact bdrew _ | exact balloc (bdrew _) _); rintro x w1 ⟨v1, rfl, h1, b1⟩; (first | ((first | have hXX := newX b1 W0 (by first | assumption | exact bdrew _) | have hXX := newX (undrew b1) W0 (by first | exact Below.refl _ _ | assumption)); obtain ⟨hX, sX⟩ := hXX; try simp only [World.size_drew] at hX sX) | (have hX := hX.below b1 hX.lt) | skip); have B1 := bstep (a := W0) (by first | assumption | exact balloc (by assumption) _ | exact bdrew _ | exact balloc (bdrew _) _) b1)
        | (go_at_call 183; (with_reducible refine (hO2 _ ?_ ?_).mono ?_); exact hzb.below (by first | assumption | exact balloc (by assumption) _ | exact bdrew _ | exact balloc (bdrew _) _); exact hqa.below (by first | assumption | exact balloc (by assumption) _ | exact bdrew _ | exact balloc (bdrew _) _); rintro x w2 ⟨v2, rfl, h2, b2⟩; (first | ((first | have hXX := newX b2 W0 (by first | assumption | exact bdrew _) | have hXX := newX (undrew b2) W0 (by first | exact Below.refl _ _ | assumption)); obtain ⟨hX, sX⟩ := hXX; try simp only [World.size_drew] at hX sX) | (have hX := hX.below b2 hX.lt) | skip); have B2 := bstep (a := W0) (by first | assumption | exact balloc (by assumption) _ | exact bdrew _ | exact balloc (bdrew _) _) b2; have h1 := h1.below (by first | exact b2 | exact bstep (balloc (Below.refl _ _) _) b2))
        | (go_at_call 132; (with_reducible refine (hA _ _ _ ?_ ?_).mono ?_); exact h1.below (by first | exact Below.refl _ _ | exact balloc (Below.refl _ _) _); exact h2.below (by first | exact Below.refl _ _ | exact balloc (Below.refl _ _) _); rintro x w3 ⟨v3, rfl, h3, b3⟩; (first | ((first | have hXX := newX b3 W0 (by first | assumption | exact bdrew _) | have hXX := newX (undrew b3) W0 (by first | exact Below.refl _ _ | assumption)); obtain ⟨hX, sX⟩ := hXX; try simp only [World.size_drew] at hX sX) | (have hX := hX.below b3 hX.lt) | skip); have B3 := bstep (a := W0) (by first | assumption | exact balloc (by assumption) _ | exact bdrew _ | exact balloc (bdrew _) _) b3)
        | (go_at_call 122; (with_reducible refine (hM _ ?_ ?_).mono ?_); exact hqa.below (by first | assumption | exact balloc (by assumption) _ | exact bdrew _ | exact balloc (bdrew _) _); exact hqb.below (by first | assumption | exact balloc (by assumption) _ | exact bdrew _ | exact balloc (bdrew _) _); rintro x w4 ⟨v4, rfl, h4, b4⟩; (first | ((first | have hXX := newX b4 W0 (by first | assumption | exact bdrew _) | have hXX := newX (undrew b4) W0 (by first | exact Below.refl _ _ | assumption)); obtain ⟨hX, sX⟩ := hXX; try simp only [World.size_drew] at hX sX) | (have hX := hX.below b4 hX.lt) | skip); have B4 := bstep (a := W0) (by first | assumption | exact balloc (by assumption) _ | exact bdrew _ | exact balloc (bdrew _) _) b4; have h3 := h3.below (by first | exact b4 | exact bstep (balloc (Below.refl _ _) _) b4))
        | (go_at_call 120; (with_reducible refine (hK _ _ _ ?_ ?_).mono ?_); exact h3.below (by first | exact Below.refl _ _ | exact balloc (Below.refl _ _) _); exact h4.below (by first | exact Below.refl _ _ | exact balloc (Below.refl _ _) _); rintro x w5 ⟨v5, rfl, ⟨n5, d5, rfl, h5, k5⟩, b5⟩; (first | ((first | have hXX := newX b5 W0 (by first | assumption | exact bdrew _) | have hXX := newX (undrew b5) W0 (by first | exact Below.refl _ _ | assumption)); obtain ⟨hX, sX⟩ := hXX; try simp only [World.size_drew] at hX sX) | (have hX := hX.below b5 hX.lt) | skip); have B5 := bstep (a := W0) (by first | assumption | exact balloc (by assumption) _ | exact bdrew _ | exact balloc (bdrew _) _) b5; obtain ⟨A1, L1, C1, rfl⟩ := h5.frm; obtain ⟨A2, L2, C2, rfl⟩ := k5.frm; (try (have x0 := hX.cell 0; have x1 := hX.cell 1; have x2 := hX.cell 2; have y0 := hX.frozen 0; have y1 := hX.frozen 1; have y2 := hX.frozen 2))))
    all_goals (go_wp2_with fail; go_meet)
    all_goals
      have hRlt := hR.lt
      have hR := hR.below B5 hR.lt
      have hB0 := hB
      have hB := hB.trans (B5.mono hB.size)
      have hsz := hT.lt
      first
        | exact ⟨_, _, _, _, _, _, _, rfl, Blk.new _ _ _, h5.below (balloc (Below.refl _ _) _), k5.below (balloc (Below.refl _ _) _), hR.alloc _, hB.alloc hB.size _⟩
        | (obtain ⟨p1, p2, p3⟩ := put3 hX (.bool (decide (r.num < 0))) (.slice A1 L1 C1) (.slice A2 L2 C2) (by simp [noU]) hB (Nat.le_trans hB0.size (by first | assumption | exact Nat.le_refl _))
           exact ⟨_, _, _, _, _, _, _, rfl, p1, p2 _ _ h5, p2 _ _ k5, hR.farX (Nat.ne_of_lt (Nat.lt_of_lt_of_le hRlt (by first | assumption | exact Nat.le_refl _))) _ _ _, p3⟩)
  obtain ⟨X, A1, A2, L1, L2, C1, C2, rfl, hX, h1, h2, hR, hB⟩ := hcut
  obtain ⟨x0, x1, x2⟩ := hX.cells3
  obtain ⟨p1, p2, p3⟩ := put3 hR (.bool (decide (r.num < 0))) (.slice A1 L1 C1) (.slice A2 L2 C2) (by simp [noU]) hB (by omega)
  have q0 := hR.cell 0
  have z0 := hR.frozen 0
  have q1 := hR.cell 1
  have z1 := hR.frozen 1
  have q2 := hR.cell 2
  have z2 := hR.frozen 2
  have P := Lib.hid (And.intro (⟨_, _, rfl, p2 _ _ h1, p2 _ _ h2⟩ : IsQ _ (.agg #[.bool (decide (r.num < 0)), .slice A1 L1 C1, .slice A2 L2 C2]) r) (And.intro p3 p1.cells3))
  clear p1 p2 p3 
  go_wp2
  obtain ⟨P1, P2, P3, P4, P5⟩ := P.out
  exact bodyPost_ret (v := .agg #[.bool (decide (r.num < 0)), .slice A1 L1 C1, .slice A2 L2 C2]) (by simp [results, Tryz.results125, go_sem, P3, P4, P5]) rfl ⟨_, rfl, P1, P2⟩
set_option maxHeartbeats 2000000 in
theorem pradd_any (va vb : Value) (a b : Rat) (w : World) (ha : IsQ w va a) (hb : IsQ w vb b) (sa : BQ a 10000) (sb : BQ b 10000) :
    Calls Tryz.prog 60 #[va, vb] w fun e w' => ∃ v', e = .returned v' ∧ IsQ w' v' (a + b) ∧ Below w.heap.size w w' := by
  have hJ := fun w h1 h2 => pjoin_add va vb a b w h1 h2 sa sb
  generalize a + b = r at *
  have hav := ha
  have hbv := hb
  obtain ⟨pa, qa, rfl, hpa, hqa⟩ := ha
  obtain ⟨pb, qb, rfl, hpb, hqb⟩ := hb
  obtain ⟨A1, L1, C1, rfl⟩ := hpa.frm
  obtain ⟨A2, L2, C2, rfl⟩ := hqa.frm
  obtain ⟨A3, L3, C3, rfl⟩ := hpb.frm
  obtain ⟨A4, L4, C4, rfl⟩ := hqb.frm
  clear hpa hqa hpb hqb sa sb
  generalize decide (a.num < 0) = s1 at *
  generalize decide (b.num < 0) = s2 at *
  obtain ⟨W0, hW, hT, hR, hB⟩ := box3 w 32 32 32 #[.bool s1, .slice A1 L1 C1, .slice A2 L2 C2] #[.bool s2, .slice A3 L3 C3, .slice A4 L4 C4] #[.bool false, .slice none 0 0, .slice none 0 0]
  obtain ⟨g, hg⟩ : ∃ g, g = w.heap.size := ⟨_, rfl⟩
  have hW' := Lib.hid (And.intro hW hg)
  rw [← hg] at hT hR
  have hgw : w.heap.size ≤ g := by omega
  clear hW hg
  obtain ⟨hX, hY⟩ := hT
  replace hav := hav.below hB
  replace hbv := hbv.below hB
  obtain ⟨c1_hX_0, c1_hX_1, c1_hX_2⟩ := hX.cells3
  obtain ⟨c1_hY_0, c1_hY_1, c1_hY_2⟩ := hY.cells3
  obtain ⟨c1_hR_0, c1_hR_1, c1_hR_2⟩ := hR.cells3
  go_enter Tryz.func60, Tryz.ntmps60
  go_wp2_with fail
  rw [← hW'.out.1, ← hW'.out.2]
  refine (hJ _ hav hbv).mono ?_
  rintro e w1 ⟨v1, rfl, ⟨n1, d1, rfl, h1, k1⟩, b1⟩
  replace hav := hav.below b1
  replace hbv := hbv.below b1
  replace hX := hX.below b1 hX.lt
  replace hY := hY.below b1 hY.lt
  replace hR := hR.below b1 hR.lt
  replace hB := hB.trans (b1.mono hB.size)
  clear c1_hX_0 c1_hX_1 c1_hX_2 c1_hY_0 c1_hY_1 c1_hY_2 c1_hR_0 c1_hR_1 c1_hR_2
  obtain ⟨c2_hX_0, c2_hX_1, c2_hX_2⟩ := hX.cells3
  obtain ⟨c2_hY_0, c2_hY_1, c2_hY_2⟩ := hY.cells3
  obtain ⟨c2_hR_0, c2_hR_1, c2_hR_2⟩ := hR.cells3
  obtain ⟨A5, L5, C5, rfl⟩ := h1.frm
  obtain ⟨A6, L6, C6, rfl⟩ := k1.frm
  obtain ⟨p1, p2, p3⟩ := put3 hR (.bool (decide (r.num < 0))) (.slice A5 L5 C5) (.slice A6 L6 C6) (by simp [noU]) hB (by omega)
  have q0 := hR.cell 0
  have z0 := hR.frozen 0
  have q1 := hR.cell 1
  have z1 := hR.frozen 1
  have q2 := hR.cell 2
  have z2 := hR.frozen 2
  have P := Lib.hid (And.intro (⟨_, _, rfl, p2 _ _ h1, p2 _ _ k1⟩ : IsQ _ (.agg #[.bool (decide (r.num < 0)), .slice A5 L5 C5, .slice A6 L6 C6]) r) (And.intro p3 p1.cells3))
  clear p1 p2 p3 
  go_wp2_with fail
  obtain ⟨P1, P2, P3, P4, P5⟩ := P.out
  exact bodyPost_ret (v := .agg #[.bool (decide (r.num < 0)), .slice A5 L5 C5, .slice A6 L6 C6]) (by simp [results, Tryz.results60, go_sem, P3, P4, P5]) rfl ⟨_, rfl, P1, P2⟩
set_option maxHeartbeats 2000000 in
theorem prsub_any (va vb : Value) (a b : Rat) (w : World) (ha : IsQ w va a) (hb : IsQ w vb b) (sa : BQ a 10000) (sb : BQ b 10000) :
    Calls Tryz.prog 67 #[va, vb] w fun e w' => ∃ v', e = .returned v' ∧ IsQ w' v' (a - b) ∧ Below w.heap.size w w' := by
  have hJ := fun w h1 h2 => pjoin_sub va vb a b w h1 h2 sa sb
  generalize a - b = r at *
  have hav := ha
  have hbv := hb
  obtain ⟨pa, qa, rfl, hpa, hqa⟩ := ha
  obtain ⟨pb, qb, rfl, hpb, hqb⟩ := hb
  obtain ⟨A1, L1, C1, rfl⟩ := hpa.frm
  obtain ⟨A2, L2, C2, rfl⟩ := hqa.frm
  obtain ⟨A3, L3, C3, rfl⟩ := hpb.frm
  obtain ⟨A4, L4, C4, rfl⟩ := hqb.frm
  clear hpa hqa hpb hqb sa sb
  generalize decide (a.num < 0) = s1 at *
  generalize decide (b.num < 0) = s2 at *
  obtain ⟨W0, hW, hT, hR, hB⟩ := box3 w 32 32 32 #[.bool s1, .slice A1 L1 C1, .slice A2 L2 C2] #[.bool s2, .slice A3 L3 C3, .slice A4 L4 C4] #[.bool false, .slice none 0 0, .slice none 0 0]
  obtain ⟨g, hg⟩ : ∃ g, g = w.heap.size := ⟨_, rfl⟩
  have hW' := Lib.hid (And.intro hW hg)
  rw [← hg] at hT hR
  have hgw : w.heap.size ≤ g := by omega
  clear hW hg
  obtain ⟨hX, hY⟩ := hT
  replace hav := hav.below hB
  replace hbv := hbv.below hB
  obtain ⟨c1_hX_0, c1_hX_1, c1_hX_2⟩ := hX.cells3
  obtain ⟨c1_hY_0, c1_hY_1, c1_hY_2⟩ := hY.cells3
  obtain ⟨c1_hR_0, c1_hR_1, c1_hR_2⟩ := hR.cells3
  go_enter Tryz.func67, Tryz.ntmps67
  go_wp2_with fail
  rw [← hW'.out.1, ← hW'.out.2]
  refine (hJ _ hav hbv).mono ?_
  rintro e w1 ⟨v1, rfl, ⟨n1, d1, rfl, h1, k1⟩, b1⟩
  replace hav := hav.below b1
  replace hbv := hbv.below b1
  replace hX := hX.below b1 hX.lt
  replace hY := hY.below b1 hY.lt
  replace hR := hR.below b1 hR.lt
  replace hB := hB.trans (b1.mono hB.size)
  clear c1_hX_0 c1_hX_1 c1_hX_2 c1_hY_0 c1_hY_1 c1_hY_2 c1_hR_0 c1_hR_1 c1_hR_2
  obtain ⟨c2_hX_0, c2_hX_1, c2_hX_2⟩ := hX.cells3
  obtain ⟨c2_hY_0, c2_hY_1, c2_hY_2⟩ := hY.cells3
  obtain ⟨c2_hR_0, c2_hR_1, c2_hR_2⟩ := hR.cells3
  obtain ⟨A5, L5, C5, rfl⟩ := h1.frm
  obtain ⟨A6, L6, C6, rfl⟩ := k1.frm
  obtain ⟨p1, p2, p3⟩ := put3 hR (.bool (decide (r.num < 0))) (.slice A5 L5 C5) (.slice A6 L6 C6) (by simp [noU]) hB (by omega)
  have q0 := hR.cell 0
  have z0 := hR.frozen 0
  have q1 := hR.cell 1
  have z1 := hR.frozen 1
  have q2 := hR.cell 2
  have z2 := hR.frozen 2
  have P := Lib.hid (And.intro (⟨_, _, rfl, p2 _ _ h1, p2 _ _ k1⟩ : IsQ _ (.agg #[.bool (decide (r.num < 0)), .slice A5 L5 C5, .slice A6 L6 C6]) r) (And.intro p3 p1.cells3))
  clear p1 p2 p3 
  go_wp2_with fail
  obtain ⟨P1, P2, P3, P4, P5⟩ := P.out
  exact bodyPost_ret (v := .agg #[.bool (decide (r.num < 0)), .slice A5 L5 C5, .slice A6 L6 C6]) (by simp [results, Tryz.results67, go_sem, P3, P4, P5]) rfl ⟨_, rfl, P1, P2⟩
end Go.Proofs.YtdnjdglekifhpaaGreat
namespace Go.Proofs.YtdnjdglekifhpaaGreat
open Go.RowKit
attribute [local go_sem ↓] Go.wp_at_zero Go.wp_at_succ
set_option maxRecDepth 100000 in
set_option maxHeartbeats 4000000 in
theorem pdback_any (v : Value) (z : Int) (k : Nat) (hk : k ≤ 2000) (w : World) (h : IsZ w v z) (sz : Sz z.natAbs 10000) :
    Calls Tryz.prog 65 #[v, .int .i64 k] w fun e w' => ∃ v', e = .returned (.tuple #[v', .int .i64 0]) ∧ IsQ w' v' (mkRat z (2 ^ k)) ∧ Below w.heap.size w w' := by
  have hO := fun w => of_any 1 (by unfold W64; omega) w
  have hS := fun v w h => dshl_any v 1 k (by omega) w h (by rw [limbs_single (by omega) (by unfold W64; omega)]; simp)
  have hM := fun u v w hu hv => prmake_any u v z (2 ^ k) w hu hv (sz.more (by omega)) ((Sz.two_pow k).more (by omega)) (Nat.pow_pos (by omega))
  rw [Nat.one_mul] at hS
  generalize mkRat z (2 ^ k) = r at *
  generalize 2 ^ k = p at *
  obtain ⟨s, A, L, C, rfl, hz⟩ := h.opn
  have hd0 : decide ((k : Int) < 0) = false := decide_eq_false (by omega)
  have hd1 : ¬ (2000 : Int) < (k : Int) := by omega
  clear h sz
  obtain ⟨g, hg⟩ : ∃ g, g = w.heap.size := ⟨_, rfl⟩
  obtain ⟨Y0, eY0, hX, bY0⟩ := box1 w 30 #[.bool s, .slice A L C]
  have zY0 : Y0.heap.size = g + 1 := by rw [eY0, World.size_alloc, ← hg]
  rw [← hg] at hX
  replace hz := hz.below bY0
  have hB := bY0
  obtain ⟨Y1, eY1, hR, bY1⟩ := box1 Y0 32 #[.bool false, .slice none 0 0, .slice none 0 0]
  have zY1 : Y1.heap.size = g + 1 + 1 := by rw [eY1, World.size_alloc, zY0]
  rw [zY0] at hR
  replace hX := hX.below bY1 hX.lt
  replace hz := hz.below bY1
  replace hB := hB.trans (bY1.mono hB.size)
  have hgw : w.heap.size ≤ g := by omega
  have EY := Lib.hid (And.intro hg (And.intro eY0 eY1))
  clear hg eY0 zY0 eY1 zY1
  obtain ⟨c0, c1⟩ := hX.q2
  obtain ⟨c2, c3, c4⟩ := hR.q3
  go_enter Tryz.func65, Tryz.ntmps65
  go_wp2_with fail
  rw [← EY.out.2.1, ← EY.out.2.2, ← EY.out.1]
  refine (hO _).mono ?_
  rintro e w2 ⟨v1, rfl, h1, b2⟩
  replace hz := hz.below b2
  replace hX := hX.below b2 hX.lt
  replace hR := hR.below b2 hR.lt
  replace hB := hB.trans (b2.mono hB.size)
  clear c0 c1 c2 c3 c4
  obtain ⟨c5, c6⟩ := hX.q2
  obtain ⟨c7, c8, c9⟩ := hR.q3
  go_wp2_with fail
  refine (hS _ _ h1).mono ?_
  rintro e w4 ⟨v2, rfl, h2, b4⟩
  replace hz := hz.below b4
  replace hX := hX.below b4 hX.lt
  replace hR := hR.below b4 hR.lt
  replace h1 := h1.below b4
  replace hB := hB.trans (b4.mono hB.size)
  clear c5 c6 c7 c8 c9
  obtain ⟨c10, c11⟩ := hX.q2
  obtain ⟨c12, c13, c14⟩ := hR.q3
  go_wp2_with fail
  refine (hM _ _ _ hz h2).mono ?_
  rintro e w6 ⟨v3, rfl, q3, b6⟩
  replace hz := hz.below b6
  replace hX := hX.below b6 hX.lt
  replace hR := hR.below b6 hR.lt
  replace h2 := h2.below b6
  replace hB := hB.trans (b6.mono hB.size)
  clear c10 c11 c12 c13 c14
  obtain ⟨c15, c16⟩ := hX.q2
  obtain ⟨c17, c18, c19⟩ := hR.q3
  obtain ⟨s3, A3, L3, C3, D3, M3, E3, rfl, q3⟩ := q3.opn
  obtain ⟨p1, p2, p3⟩ := put3 hR (.bool s3) (.slice A3 L3 C3) (.slice D3 M3 E3) (by simp [noU]) hB (by omega)
  have rc0 : World.cell? _ ⟨g + 1, 0, none⟩ = some (.bool false) := hR.cell 0
  have rf0 := hR.frozen 0
  have rc1 : World.cell? _ ⟨g + 1, 1, none⟩ = some (.slice none 0 0) := hR.cell 1
  have rf1 := hR.frozen 1
  have rc2 : World.cell? _ ⟨g + 1, 2, none⟩ = some (.slice none 0 0) := hR.cell 2
  have rf2 := hR.frozen 2
  have P := Lib.hid (And.intro (q3.kept p2) (And.intro p3 p1.cells3))
  clear p1 p2 p3
  go_wp2_with fail
  obtain ⟨P1, P2, P3, P4, P5⟩ := P.out
  exact bodyPost_ret (v := .tuple #[.agg #[.bool s3, .slice A3 L3 C3, .slice D3 M3 E3], .int .i64 0]) (by simp [results, Tryz.results65, go_sem, P3, P4, P5]) rfl ⟨_, rfl, P1, P2⟩
end Go.Proofs.YtdnjdglekifhpaaGreat
namespace Go.Proofs.YtdnjdglekifhpaaGreat
open Go.RowKit
attribute [local go_sem ↓] Go.wp_at_zero Go.wp_at_succ
theorem floor_neg (n D : Nat) (hD : 0 < D) : -(n : Int) / (D : Int) = -((n / D + (if 0 < n % D then 1 else 0) : Nat) : Int) := by
  have hr := Nat.mod_lt n hD
  have hn := Nat.div_add_mod n D
  generalize n / D = q at *
  generalize n % D = r at *
  by_cases h0 : r = 0
  · subst h0
    have e0 : -(n : Int) = (D : Int) * (-(q : Int)) := by rw [← hn]; simp [Int.mul_neg]
    rw [e0, Int.mul_ediv_cancel_left _ (by omega)]; simp
  · have e0 : -(n : Int) = ((D - r : Nat) : Int) + (D : Int) * (-(q : Int) - 1) := by
      rw [← hn, Int.mul_sub, Int.mul_neg]; push_cast [Nat.le_of_lt hr]; rw [Int.mul_one]; omega
    rw [e0, Int.add_mul_ediv_left _ _ (by omega), Int.ediv_eq_zero_of_lt (by omega) (by omega), Int.zero_add, if_pos (by omega)]; omega
def flr (a : Rat) (k : Nat) : Int := a.num * 2 ^ k / a.den
theorem flr_pos (a : Rat) (k : Nat) (h : ¬ a.num < 0) : flr a k = ((a.num.natAbs * 2 ^ k / a.den : Nat) : Int) := by
  unfold flr
  have e : a.num = (a.num.natAbs : Int) := by omega
  generalize a.num.natAbs = x at *
  rw [e]; simp
theorem flr_neg (a : Rat) (k : Nat) (h : a.num < 0) : flr a k = -((a.num.natAbs * 2 ^ k / a.den + (if 0 < a.num.natAbs * 2 ^ k % a.den then 1 else 0) : Nat) : Int) := by
  unfold flr
  have e : a.num = -(a.num.natAbs : Int) := by omega
  have hd := Rat.den_pos a
  generalize a.num.natAbs = x at *
  rw [e, ← floor_neg _ _ hd, Int.neg_mul]; simp
def cel (a : Rat) (k : Nat) : Int := -flr (-a) k
end Go.Proofs.YtdnjdglekifhpaaGreat
namespace Go.Proofs.YtdnjdglekifhpaaGreat
open Go.RowKit
attribute [local go_sem ↓] Go.wp_at_zero Go.wp_at_succ
def rndN (a : Rat) (k : Nat) (c : Bool) : Nat := a.num.natAbs * 2 ^ k / a.den + (if 0 < a.num.natAbs * 2 ^ k % a.den ∧ c = true then 1 else 0)
theorem IsN.zeroL {w : World} {v : Value} {n : Nat} (h : IsN w v n) (h0 : n = 0) : ∃ A C, v = .slice A 0 C := by
  obtain ⟨A, L, c, rfl, hL⟩ := h.open_
  subst h0
  exact ⟨A, c, by rw [hL]; rfl⟩
theorem rnd_cel (a : Rat) (k : Nat) : cel a k = sided (decide (a.num < 0)) (rndN a k (!decide (a.num < 0))) := by
  unfold cel rndN
  by_cases h : a.num < 0
  · have h2 : ¬ (-a).num < 0 := by rw [Rat.neg_num]; omega
    rw [flr_pos _ _ h2, Rat.neg_num, Rat.neg_den, Int.natAbs_neg, decide_eq_true h]
    simp [sided]
  · rw [decide_eq_false h]
    by_cases h0 : a.num = 0
    · have h2 : ¬ (-a).num < 0 := by rw [Rat.neg_num]; omega
      rw [flr_pos _ _ h2, Rat.neg_num, h0]
      simp [sided]
    · have h2 : (-a).num < 0 := by rw [Rat.neg_num]; omega
      rw [flr_neg _ _ h2, Rat.neg_num, Rat.neg_den, Int.natAbs_neg]
      simp [sided]
set_option maxRecDepth 100000 in
set_option maxHeartbeats 4000000 in
theorem pceil1_any (u v x : Value) (X : Nat) (s : Bool) (pa qa : Value) (w : World) (hX : Blk w X 32 #[.bool s, pa, qa]) :
    Calls Tryz.prog 129 #[u, v, x, .pointer (some ⟨X, 0, none⟩)] w fun e w' => e = .returned (.bool (!s)) ∧ w = w' := by
  have c0 : World.cell? w ⟨X, 0, none⟩ = some (.bool s) := hX.cell 0
  go_enter Tryz.func129, Tryz.ntmps129
  go_wp2
  go_ret
  exact ⟨rfl, rfl⟩
set_option maxRecDepth 100000 in
set_option maxHeartbeats 4000000 in
theorem prounded_ceil (v : Value) (a : Rat) (k : Nat) (X : Nat) (w : World) (h : IsQ w v a) (hk : k ≤ 2000) (sa : BQ a 10000) (hX : ∃ p q, Blk w X 32 #[.bool (decide (a.num < 0)), p, q]) :
    Calls Tryz.prog 128 #[v, .int .i64 k, .func (.func 129) #[] #[.pointer (some ⟨X, 0, none⟩)]] w fun e w' => ∃ v', e = .returned (.tuple #[v', .int .i64 0]) ∧ IsZ w' v' (cel a k) ∧ Below w.heap.size w w' := by
  have hd := Rat.den_pos a
  obtain ⟨px, qx, hX⟩ := hX
  obtain ⟨s, A, L, C, D, M, E, rfl, hq⟩ := h.opn
  obtain ⟨es, hz, hn⟩ := hq.parts
  obtain ⟨-, hp⟩ := hz.parts
  rw [← es] at hX
  have hS := fun w h => dshl_any (.slice A L C) a.num.natAbs k (by omega) w h (sa.1.fin (by omega))
  have s2 : Sz (a.num.natAbs * 2 ^ k) 20000 := (sa.1.mul (Sz.two_pow k)).more (by omega)
  have hD := fun u w hu hv => ddivmod_any u (.slice D M E) (a.num.natAbs * 2 ^ k) a.den w hu hv (s2.more (by omega)) (sa.2.more (by omega)) hd
  have s3 : Sz (a.num.natAbs * 2 ^ k / a.den) 20000 := s2.le (Nat.div_le_self _ _)
  have hO := fun w => of_any 1 (by unfold W64; omega) w
  have hA := fun u v w hu hv => add_any u v (a.num.natAbs * 2 ^ k / a.den) 1 w hu hv (s3.fin (by omega)) (Sz.one.fin (by omega))
  have hC := fun u v x w h => pceil1_any u v x X s px qx w h
  have hv : cel a k = sided s (rndN a k (!s)) := by rw [es]; exact rnd_cel a k
  have hr : rndN a k (!s) = a.num.natAbs * 2 ^ k / a.den + (if 0 < a.num.natAbs * 2 ^ k % a.den ∧ (!s) = true then 1 else 0) := rfl
  rw [hr] at hv
  generalize cel a k = z at *
  generalize a.num.natAbs * 2 ^ k / a.den = n at *
  generalize a.num.natAbs * 2 ^ k % a.den = r at *
  generalize a.num.natAbs * 2 ^ k = m at *
  generalize a.num.natAbs = x at *
  generalize a.den = d at *
  have hd0 : decide ((k : Int) < 0) = false := decide_eq_false (by omega)
  have hd1 : ¬ (2000 : Int) < (k : Int) := by omega
  clear s2 s3 sa hd hz es hr hq
  rcases s with _ | _
  · -- s = False
    rcases Nat.eq_zero_or_pos r with hr0 | hr0
    · have HR := Lib.hid hr0
      rw [if_neg (by omega), Nat.add_zero] at hv
      have HZ : Hid (decide (z < 0) = false ∧ z.natAbs = n) := by rw [Hid, hv]; simp [sided]
      clear hr0 hv
      obtain ⟨Y0, eY0, hT, bY0⟩ := box1 w 32 #[.bool false, .slice A L C, .slice D M E]
      obtain ⟨Y1, eY1, hR, bY1⟩ := box1 Y0 30 #[.bool false, .slice none 0 0]
      obtain ⟨g, hg⟩ : ∃ g, g = w.heap.size := ⟨_, rfl⟩
      have zY0 : Y0.heap.size = g + 1 := by rw [eY0, World.size_alloc, ← hg]
      rw [← hg] at hT
      rw [zY0] at hR
      replace hT := hT.below bY1 hT.lt
      replace hX := (hX.below bY0 hX.lt).below bY1 (by have := hX.lt; have := bY0.size; omega)
      replace hp := (hp.below bY0).below bY1
      replace hn := (hn.below bY0).below bY1
      have hB := bY0.trans (bY1.mono bY0.size)
      have hgw : w.heap.size ≤ g := by omega
      have EY := Lib.hid (And.intro hg (And.intro eY0 eY1))
      clear hg eY0 eY1 zY0
      obtain ⟨c0, c1, c2⟩ := hX.q3
      obtain ⟨c3, c4, c5⟩ := hT.q3
      obtain ⟨c6, c7⟩ := hR.q2
      go_enter Tryz.func128, Tryz.ntmps128
      go_wp2_with fail
      rw [← EY.out.2.1, ← EY.out.2.2, ← EY.out.1]
      refine (hS _ hp).mono ?_
      rintro e w2 ⟨v1, rfl, h1, b2⟩
      replace hp := hp.below b2
      replace hn := hn.below b2
      replace hX := hX.below b2 hX.lt
      replace hT := hT.below b2 hT.lt
      replace hR := hR.below b2 hR.lt
      replace hB := hB.trans (b2.mono hB.size)
      clear c0 c1 c2 c3 c4 c5 c6 c7
      obtain ⟨c8, c9, c10⟩ := hX.q3
      obtain ⟨c11, c12, c13⟩ := hT.q3
      obtain ⟨c14, c15⟩ := hR.q2
      go_wp2_with fail
      refine (hD _ _ h1 hn).mono ?_
      rintro e w4 ⟨v2, v3, rfl, h2, h3, b4⟩
      replace hn := hn.below b4
      replace hX := hX.below b4 hX.lt
      replace hT := hT.below b4 hT.lt
      replace hR := hR.below b4 hR.lt
      replace h1 := h1.below b4
      replace hB := hB.trans (b4.mono hB.size)
      clear c8 c9 c10 c11 c12 c13 c14 c15
      obtain ⟨c16, c17, c18⟩ := hX.q3
      obtain ⟨c19, c20, c21⟩ := hT.q3
      obtain ⟨c22, c23⟩ := hR.q2
      obtain ⟨A2, L2, C2, rfl, h2⟩ := h2.opn
      obtain ⟨A3, C3, rfl⟩ := h3.zeroL HR.out
      clear h3
      obtain ⟨p1, p2, p3⟩ := put2 hR (.bool false) (.slice A2 L2 C2) (by simp [noU]) hB (by omega)
      have rc0 : World.cell? _ ⟨g + 1, 0, none⟩ = some (.bool false) := hR.cell 0
      have rf0 := hR.frozen 0
      have rc1 : World.cell? _ ⟨g + 1, 1, none⟩ = some (.slice none 0 0) := hR.cell 1
      have rf1 := hR.frozen 1
      have P := Lib.hid (And.intro (show IsZ _ (.agg #[.bool false, .slice A2 L2 C2]) z from ⟨_, by rw [show decide (z < 0) = false from HZ.out.1], by rw [HZ.out.2]; exact p2 _ _ h2⟩) (And.intro p3 p1.cells2))
      clear p1 p2 p3
      go_wp2_with fail
      obtain ⟨P1, P2, P3, P4⟩ := P.out
      exact bodyPost_ret (v := .tuple #[.agg #[.bool false, .slice A2 L2 C2], .int .i64 0]) (by simp [results, Tryz.results128, go_sem, P3, P4]) rfl ⟨_, rfl, P1, P2⟩
    · have HR := Lib.hid hr0
      rw [if_pos ⟨hr0, rfl⟩] at hv
      have HZ : Hid (decide (z < 0) = false ∧ z.natAbs = n + 1) := by rw [Hid, hv]; simp [sided]; omega
      clear hr0 hv
      obtain ⟨Y0, eY0, hT, bY0⟩ := box1 w 32 #[.bool false, .slice A L C, .slice D M E]
      obtain ⟨Y1, eY1, hR, bY1⟩ := box1 Y0 30 #[.bool false, .slice none 0 0]
      obtain ⟨g, hg⟩ : ∃ g, g = w.heap.size := ⟨_, rfl⟩
      have zY0 : Y0.heap.size = g + 1 := by rw [eY0, World.size_alloc, ← hg]
      rw [← hg] at hT
      rw [zY0] at hR
      replace hT := hT.below bY1 hT.lt
      replace hX := (hX.below bY0 hX.lt).below bY1 (by have := hX.lt; have := bY0.size; omega)
      replace hp := (hp.below bY0).below bY1
      replace hn := (hn.below bY0).below bY1
      have hB := bY0.trans (bY1.mono bY0.size)
      have hgw : w.heap.size ≤ g := by omega
      have EY := Lib.hid (And.intro hg (And.intro eY0 eY1))
      clear hg eY0 eY1 zY0
      obtain ⟨c0, c1, c2⟩ := hX.q3
      obtain ⟨c3, c4, c5⟩ := hT.q3
      obtain ⟨c6, c7⟩ := hR.q2
      go_enter Tryz.func128, Tryz.ntmps128
      go_wp2_with fail
      rw [← EY.out.2.1, ← EY.out.2.2, ← EY.out.1]
      refine (hS _ hp).mono ?_
      rintro e w2 ⟨v1, rfl, h1, b2⟩
      replace hp := hp.below b2
      replace hn := hn.below b2
      replace hX := hX.below b2 hX.lt
      replace hT := hT.below b2 hT.lt
      replace hR := hR.below b2 hR.lt
      replace hB := hB.trans (b2.mono hB.size)
      clear c0 c1 c2 c3 c4 c5 c6 c7
      obtain ⟨c8, c9, c10⟩ := hX.q3
      obtain ⟨c11, c12, c13⟩ := hT.q3
      obtain ⟨c14, c15⟩ := hR.q2
      go_wp2_with fail
      refine (hD _ _ h1 hn).mono ?_
      rintro e w4 ⟨v2, v3, rfl, h2, h3, b4⟩
      replace hn := hn.below b4
      replace hX := hX.below b4 hX.lt
      replace hT := hT.below b4 hT.lt
      replace hR := hR.below b4 hR.lt
      replace h1 := h1.below b4
      replace hB := hB.trans (b4.mono hB.size)
      clear c8 c9 c10 c11 c12 c13 c14 c15
      obtain ⟨c16, c17, c18⟩ := hX.q3
      obtain ⟨c19, c20, c21⟩ := hT.q3
      obtain ⟨c22, c23⟩ := hR.q2
      obtain ⟨A2, L2, C2, rfl, h2⟩ := h2.opn
      obtain ⟨A3, L3, C3, rfl, hL3⟩ := h3.pos HR.out
      have hL3i : (0 : Int) < (L3 : Int) := by omega
      clear h3
      go_wp2_with fail
      refine (hC _ _ _ _ hX).mono ?_
      rintro e w6 ⟨rfl, rfl⟩
      go_wp2_with fail
      refine (hO _).mono ?_
      rintro e w7 ⟨v4, rfl, h4, b7⟩
      replace hX := hX.below b7 hX.lt
      replace hT := hT.below b7 hT.lt
      replace hR := hR.below b7 hR.lt
      replace h2 := h2.below b7
      replace hB := hB.trans (b7.mono hB.size)
      clear c16 c17 c18 c19 c20 c21 c22 c23
      obtain ⟨c24, c25, c26⟩ := hX.q3
      obtain ⟨c27, c28, c29⟩ := hT.q3
      obtain ⟨c30, c31⟩ := hR.q2
      go_wp2_with fail
      refine (hA _ _ _ h2 h4).mono ?_
      rintro e w9 ⟨v5, rfl, h5, b9⟩
      replace hX := hX.below b9 hX.lt
      replace hT := hT.below b9 hT.lt
      replace hR := hR.below b9 hR.lt
      replace h2 := h2.below b9
      replace h4 := h4.below b9
      replace hB := hB.trans (b9.mono hB.size)
      clear c24 c25 c26 c27 c28 c29 c30 c31
      obtain ⟨c32, c33, c34⟩ := hX.q3
      obtain ⟨c35, c36, c37⟩ := hT.q3
      obtain ⟨c38, c39⟩ := hR.q2
      obtain ⟨A6, L6, C6, rfl, h5⟩ := h5.opn
      obtain ⟨p1, p2, p3⟩ := put2 hR (.bool false) (.slice A6 L6 C6) (by simp [noU]) hB (by omega)
      have rc0 : World.cell? _ ⟨g + 1, 0, none⟩ = some (.bool false) := hR.cell 0
      have rf0 := hR.frozen 0
      have rc1 : World.cell? _ ⟨g + 1, 1, none⟩ = some (.slice none 0 0) := hR.cell 1
      have rf1 := hR.frozen 1
      have P := Lib.hid (And.intro (show IsZ _ (.agg #[.bool false, .slice A6 L6 C6]) z from ⟨_, by rw [show decide (z < 0) = false from HZ.out.1], by rw [HZ.out.2]; exact p2 _ _ h5⟩) (And.intro p3 p1.cells2))
      clear p1 p2 p3
      go_wp2_with fail
      obtain ⟨P1, P2, P3, P4⟩ := P.out
      exact bodyPost_ret (v := .tuple #[.agg #[.bool false, .slice A6 L6 C6], .int .i64 0]) (by simp [results, Tryz.results128, go_sem, P3, P4]) rfl ⟨_, rfl, P1, P2⟩
  · -- s = True
    rcases Nat.eq_zero_or_pos r with hr0 | hr0
    · have HR := Lib.hid hr0
      rw [if_neg (by omega), Nat.add_zero] at hv
      rcases Nat.eq_zero_or_pos n with hn0 | hn0
      · have HQ := Lib.hid hn0
        have HZ : Hid (decide (z < 0) = false ∧ z.natAbs = n) := by rw [Hid, hv, hn0]; simp [sided]
        clear hr0 hv hn0
        obtain ⟨Y0, eY0, hT, bY0⟩ := box1 w 32 #[.bool true, .slice A L C, .slice D M E]
        obtain ⟨Y1, eY1, hR, bY1⟩ := box1 Y0 30 #[.bool false, .slice none 0 0]
        obtain ⟨g, hg⟩ : ∃ g, g = w.heap.size := ⟨_, rfl⟩
        have zY0 : Y0.heap.size = g + 1 := by rw [eY0, World.size_alloc, ← hg]
        rw [← hg] at hT
        rw [zY0] at hR
        replace hT := hT.below bY1 hT.lt
        replace hX := (hX.below bY0 hX.lt).below bY1 (by have := hX.lt; have := bY0.size; omega)
        replace hp := (hp.below bY0).below bY1
        replace hn := (hn.below bY0).below bY1
        have hB := bY0.trans (bY1.mono bY0.size)
        have hgw : w.heap.size ≤ g := by omega
        have EY := Lib.hid (And.intro hg (And.intro eY0 eY1))
        clear hg eY0 eY1 zY0
        obtain ⟨c0, c1, c2⟩ := hX.q3
        obtain ⟨c3, c4, c5⟩ := hT.q3
        obtain ⟨c6, c7⟩ := hR.q2
        go_enter Tryz.func128, Tryz.ntmps128
        go_wp2_with fail
        rw [← EY.out.2.1, ← EY.out.2.2, ← EY.out.1]
        refine (hS _ hp).mono ?_
        rintro e w2 ⟨v1, rfl, h1, b2⟩
        replace hp := hp.below b2
        replace hn := hn.below b2
        replace hX := hX.below b2 hX.lt
        replace hT := hT.below b2 hT.lt
        replace hR := hR.below b2 hR.lt
        replace hB := hB.trans (b2.mono hB.size)
        clear c0 c1 c2 c3 c4 c5 c6 c7
        obtain ⟨c8, c9, c10⟩ := hX.q3
        obtain ⟨c11, c12, c13⟩ := hT.q3
        obtain ⟨c14, c15⟩ := hR.q2
        go_wp2_with fail
        refine (hD _ _ h1 hn).mono ?_
        rintro e w4 ⟨v2, v3, rfl, h2, h3, b4⟩
        replace hn := hn.below b4
        replace hX := hX.below b4 hX.lt
        replace hT := hT.below b4 hT.lt
        replace hR := hR.below b4 hR.lt
        replace h1 := h1.below b4
        replace hB := hB.trans (b4.mono hB.size)
        clear c8 c9 c10 c11 c12 c13 c14 c15
        obtain ⟨c16, c17, c18⟩ := hX.q3
        obtain ⟨c19, c20, c21⟩ := hT.q3
        obtain ⟨c22, c23⟩ := hR.q2
        obtain ⟨A2, L2, C2, rfl, h2⟩ := h2.opn
        obtain ⟨A3, C3, rfl⟩ := h3.zeroL HR.out
        clear h3
        obtain ⟨A6, C6, e6⟩ := h2.zeroL HQ.out
        obtain ⟨rfl, rfl, rfl⟩ := Value.slice.inj e6
        clear e6
        obtain ⟨p1, p2, p3⟩ := put2 hR (.bool false) (.slice A2 0 C2) (by simp [noU]) hB (by omega)
        have rc0 : World.cell? _ ⟨g + 1, 0, none⟩ = some (.bool false) := hR.cell 0
        have rf0 := hR.frozen 0
        have rc1 : World.cell? _ ⟨g + 1, 1, none⟩ = some (.slice none 0 0) := hR.cell 1
        have rf1 := hR.frozen 1
        have P := Lib.hid (And.intro (show IsZ _ (.agg #[.bool false, .slice A2 0 C2]) z from ⟨_, by rw [show decide (z < 0) = false from HZ.out.1], by rw [HZ.out.2]; exact p2 _ _ h2⟩) (And.intro p3 p1.cells2))
        clear p1 p2 p3
        go_wp2_with fail
        obtain ⟨P1, P2, P3, P4⟩ := P.out
        exact bodyPost_ret (v := .tuple #[.agg #[.bool false, .slice A2 0 C2], .int .i64 0]) (by simp [results, Tryz.results128, go_sem, P3, P4]) rfl ⟨_, rfl, P1, P2⟩
      · have HQ := Lib.hid hn0
        have HZ : Hid (decide (z < 0) = true ∧ z.natAbs = n) := by rw [Hid, hv]; simp [sided]; omega
        clear hr0 hv hn0
        obtain ⟨Y0, eY0, hT, bY0⟩ := box1 w 32 #[.bool true, .slice A L C, .slice D M E]
        obtain ⟨Y1, eY1, hR, bY1⟩ := box1 Y0 30 #[.bool false, .slice none 0 0]
        obtain ⟨g, hg⟩ : ∃ g, g = w.heap.size := ⟨_, rfl⟩
        have zY0 : Y0.heap.size = g + 1 := by rw [eY0, World.size_alloc, ← hg]
        rw [← hg] at hT
        rw [zY0] at hR
        replace hT := hT.below bY1 hT.lt
        replace hX := (hX.below bY0 hX.lt).below bY1 (by have := hX.lt; have := bY0.size; omega)
        replace hp := (hp.below bY0).below bY1
        replace hn := (hn.below bY0).below bY1
        have hB := bY0.trans (bY1.mono bY0.size)
        have hgw : w.heap.size ≤ g := by omega
        have EY := Lib.hid (And.intro hg (And.intro eY0 eY1))
        clear hg eY0 eY1 zY0
        obtain ⟨c0, c1, c2⟩ := hX.q3
        obtain ⟨c3, c4, c5⟩ := hT.q3
        obtain ⟨c6, c7⟩ := hR.q2
        go_enter Tryz.func128, Tryz.ntmps128
        go_wp2_with fail
        rw [← EY.out.2.1, ← EY.out.2.2, ← EY.out.1]
        refine (hS _ hp).mono ?_
        rintro e w2 ⟨v1, rfl, h1, b2⟩
        replace hp := hp.below b2
        replace hn := hn.below b2
        replace hX := hX.below b2 hX.lt
        replace hT := hT.below b2 hT.lt
        replace hR := hR.below b2 hR.lt
        replace hB := hB.trans (b2.mono hB.size)
        clear c0 c1 c2 c3 c4 c5 c6 c7
        obtain ⟨c8, c9, c10⟩ := hX.q3
        obtain ⟨c11, c12, c13⟩ := hT.q3
        obtain ⟨c14, c15⟩ := hR.q2
        go_wp2_with fail
        refine (hD _ _ h1 hn).mono ?_
        rintro e w4 ⟨v2, v3, rfl, h2, h3, b4⟩
        replace hn := hn.below b4
        replace hX := hX.below b4 hX.lt
        replace hT := hT.below b4 hT.lt
        replace hR := hR.below b4 hR.lt
        replace h1 := h1.below b4
        replace hB := hB.trans (b4.mono hB.size)
        clear c8 c9 c10 c11 c12 c13 c14 c15
        obtain ⟨c16, c17, c18⟩ := hX.q3
        obtain ⟨c19, c20, c21⟩ := hT.q3
        obtain ⟨c22, c23⟩ := hR.q2
        obtain ⟨A2, L2, C2, rfl, h2⟩ := h2.opn
        obtain ⟨A3, C3, rfl⟩ := h3.zeroL HR.out
        clear h3
        obtain ⟨A6, L6, C6, e6, hL6⟩ := h2.pos HQ.out
        obtain ⟨rfl, rfl, rfl⟩ := Value.slice.inj e6
        clear e6
        have hL6i : (0 : Int) < (L2 : Int) := by omega
        skip
        obtain ⟨p1, p2, p3⟩ := put2 hR (.bool true) (.slice A2 L2 C2) (by simp [noU]) hB (by omega)
        have rc0 : World.cell? _ ⟨g + 1, 0, none⟩ = some (.bool false) := hR.cell 0
        have rf0 := hR.frozen 0
        have rc1 : World.cell? _ ⟨g + 1, 1, none⟩ = some (.slice none 0 0) := hR.cell 1
        have rf1 := hR.frozen 1
        have P := Lib.hid (And.intro (show IsZ _ (.agg #[.bool true, .slice A2 L2 C2]) z from ⟨_, by rw [show decide (z < 0) = true from HZ.out.1], by rw [HZ.out.2]; exact p2 _ _ h2⟩) (And.intro p3 p1.cells2))
        clear p1 p2 p3
        go_wp2_with fail
        obtain ⟨P1, P2, P3, P4⟩ := P.out
        exact bodyPost_ret (v := .tuple #[.agg #[.bool true, .slice A2 L2 C2], .int .i64 0]) (by simp [results, Tryz.results128, go_sem, P3, P4]) rfl ⟨_, rfl, P1, P2⟩
    · have HR := Lib.hid hr0
      rw [if_neg (by simp), Nat.add_zero] at hv
      rcases Nat.eq_zero_or_pos n with hn0 | hn0
      · have HQ := Lib.hid hn0
        have HZ : Hid (decide (z < 0) = false ∧ z.natAbs = n) := by rw [Hid, hv, hn0]; simp [sided]
        clear hr0 hv hn0
        obtain ⟨Y0, eY0, hT, bY0⟩ := box1 w 32 #[.bool true, .slice A L C, .slice D M E]
        obtain ⟨Y1, eY1, hR, bY1⟩ := box1 Y0 30 #[.bool false, .slice none 0 0]
        obtain ⟨g, hg⟩ : ∃ g, g = w.heap.size := ⟨_, rfl⟩
        have zY0 : Y0.heap.size = g + 1 := by rw [eY0, World.size_alloc, ← hg]
        rw [← hg] at hT
        rw [zY0] at hR
        replace hT := hT.below bY1 hT.lt
        replace hX := (hX.below bY0 hX.lt).below bY1 (by have := hX.lt; have := bY0.size; omega)
        replace hp := (hp.below bY0).below bY1
        replace hn := (hn.below bY0).below bY1
        have hB := bY0.trans (bY1.mono bY0.size)
        have hgw : w.heap.size ≤ g := by omega
        have EY := Lib.hid (And.intro hg (And.intro eY0 eY1))
        clear hg eY0 eY1 zY0
        obtain ⟨c0, c1, c2⟩ := hX.q3
        obtain ⟨c3, c4, c5⟩ := hT.q3
        obtain ⟨c6, c7⟩ := hR.q2
        go_enter Tryz.func128, Tryz.ntmps128
        go_wp2_with fail
        rw [← EY.out.2.1, ← EY.out.2.2, ← EY.out.1]
        refine (hS _ hp).mono ?_
        rintro e w2 ⟨v1, rfl, h1, b2⟩
        replace hp := hp.below b2
        replace hn := hn.below b2
        replace hX := hX.below b2 hX.lt
        replace hT := hT.below b2 hT.lt
        replace hR := hR.below b2 hR.lt
        replace hB := hB.trans (b2.mono hB.size)
        clear c0 c1 c2 c3 c4 c5 c6 c7
        obtain ⟨c8, c9, c10⟩ := hX.q3
        obtain ⟨c11, c12, c13⟩ := hT.q3
        obtain ⟨c14, c15⟩ := hR.q2
        go_wp2_with fail
        refine (hD _ _ h1 hn).mono ?_
        rintro e w4 ⟨v2, v3, rfl, h2, h3, b4⟩
        replace hn := hn.below b4
        replace hX := hX.below b4 hX.lt
        replace hT := hT.below b4 hT.lt
        replace hR := hR.below b4 hR.lt
        replace h1 := h1.below b4
        replace hB := hB.trans (b4.mono hB.size)
        clear c8 c9 c10 c11 c12 c13 c14 c15
        obtain ⟨c16, c17, c18⟩ := hX.q3
        obtain ⟨c19, c20, c21⟩ := hT.q3
        obtain ⟨c22, c23⟩ := hR.q2
        obtain ⟨A2, L2, C2, rfl, h2⟩ := h2.opn
        obtain ⟨A3, L3, C3, rfl, hL3⟩ := h3.pos HR.out
        have hL3i : (0 : Int) < (L3 : Int) := by omega
        clear h3
        go_wp2_with fail
        refine (hC _ _ _ _ hX).mono ?_
        rintro e w6 ⟨rfl, rfl⟩
        obtain ⟨A6, C6, e6⟩ := h2.zeroL HQ.out
        obtain ⟨rfl, rfl, rfl⟩ := Value.slice.inj e6
        clear e6
        obtain ⟨p1, p2, p3⟩ := put2 hR (.bool false) (.slice A2 0 C2) (by simp [noU]) hB (by omega)
        have rc0 : World.cell? _ ⟨g + 1, 0, none⟩ = some (.bool false) := hR.cell 0
        have rf0 := hR.frozen 0
        have rc1 : World.cell? _ ⟨g + 1, 1, none⟩ = some (.slice none 0 0) := hR.cell 1
        have rf1 := hR.frozen 1
        have P := Lib.hid (And.intro (show IsZ _ (.agg #[.bool false, .slice A2 0 C2]) z from ⟨_, by rw [show decide (z < 0) = false from HZ.out.1], by rw [HZ.out.2]; exact p2 _ _ h2⟩) (And.intro p3 p1.cells2))
        clear p1 p2 p3
        go_wp2_with fail
        obtain ⟨P1, P2, P3, P4⟩ := P.out
        exact bodyPost_ret (v := .tuple #[.agg #[.bool false, .slice A2 0 C2], .int .i64 0]) (by simp [results, Tryz.results128, go_sem, P3, P4]) rfl ⟨_, rfl, P1, P2⟩
      · have HQ := Lib.hid hn0
        have HZ : Hid (decide (z < 0) = true ∧ z.natAbs = n) := by rw [Hid, hv]; simp [sided]; omega
        clear hr0 hv hn0
        obtain ⟨Y0, eY0, hT, bY0⟩ := box1 w 32 #[.bool true, .slice A L C, .slice D M E]
        obtain ⟨Y1, eY1, hR, bY1⟩ := box1 Y0 30 #[.bool false, .slice none 0 0]
        obtain ⟨g, hg⟩ : ∃ g, g = w.heap.size := ⟨_, rfl⟩
        have zY0 : Y0.heap.size = g + 1 := by rw [eY0, World.size_alloc, ← hg]
        rw [← hg] at hT
        rw [zY0] at hR
        replace hT := hT.below bY1 hT.lt
        replace hX := (hX.below bY0 hX.lt).below bY1 (by have := hX.lt; have := bY0.size; omega)
        replace hp := (hp.below bY0).below bY1
        replace hn := (hn.below bY0).below bY1
        have hB := bY0.trans (bY1.mono bY0.size)
        have hgw : w.heap.size ≤ g := by omega
        have EY := Lib.hid (And.intro hg (And.intro eY0 eY1))
        clear hg eY0 eY1 zY0
        obtain ⟨c0, c1, c2⟩ := hX.q3
        obtain ⟨c3, c4, c5⟩ := hT.q3
        obtain ⟨c6, c7⟩ := hR.q2
        go_enter Tryz.func128, Tryz.ntmps128
        go_wp2_with fail
        rw [← EY.out.2.1, ← EY.out.2.2, ← EY.out.1]
        refine (hS _ hp).mono ?_
        rintro e w2 ⟨v1, rfl, h1, b2⟩
        replace hp := hp.below b2
        replace hn := hn.below b2
        replace hX := hX.below b2 hX.lt
        replace hT := hT.below b2 hT.lt
        replace hR := hR.below b2 hR.lt
        replace hB := hB.trans (b2.mono hB.size)
        clear c0 c1 c2 c3 c4 c5 c6 c7
        obtain ⟨c8, c9, c10⟩ := hX.q3
        obtain ⟨c11, c12, c13⟩ := hT.q3
        obtain ⟨c14, c15⟩ := hR.q2
        go_wp2_with fail
        refine (hD _ _ h1 hn).mono ?_
        rintro e w4 ⟨v2, v3, rfl, h2, h3, b4⟩
        replace hn := hn.below b4
        replace hX := hX.below b4 hX.lt
        replace hT := hT.below b4 hT.lt
        replace hR := hR.below b4 hR.lt
        replace h1 := h1.below b4
        replace hB := hB.trans (b4.mono hB.size)
        clear c8 c9 c10 c11 c12 c13 c14 c15
        obtain ⟨c16, c17, c18⟩ := hX.q3
        obtain ⟨c19, c20, c21⟩ := hT.q3
        obtain ⟨c22, c23⟩ := hR.q2
        obtain ⟨A2, L2, C2, rfl, h2⟩ := h2.opn
        obtain ⟨A3, L3, C3, rfl, hL3⟩ := h3.pos HR.out
        have hL3i : (0 : Int) < (L3 : Int) := by omega
        clear h3
        go_wp2_with fail
        refine (hC _ _ _ _ hX).mono ?_
        rintro e w6 ⟨rfl, rfl⟩
        obtain ⟨A6, L6, C6, e6, hL6⟩ := h2.pos HQ.out
        obtain ⟨rfl, rfl, rfl⟩ := Value.slice.inj e6
        clear e6
        have hL6i : (0 : Int) < (L2 : Int) := by omega
        skip
        obtain ⟨p1, p2, p3⟩ := put2 hR (.bool true) (.slice A2 L2 C2) (by simp [noU]) hB (by omega)
        have rc0 : World.cell? _ ⟨g + 1, 0, none⟩ = some (.bool false) := hR.cell 0
        have rf0 := hR.frozen 0
        have rc1 : World.cell? _ ⟨g + 1, 1, none⟩ = some (.slice none 0 0) := hR.cell 1
        have rf1 := hR.frozen 1
        have P := Lib.hid (And.intro (show IsZ _ (.agg #[.bool true, .slice A2 L2 C2]) z from ⟨_, by rw [show decide (z < 0) = true from HZ.out.1], by rw [HZ.out.2]; exact p2 _ _ h2⟩) (And.intro p3 p1.cells2))
        clear p1 p2 p3
        go_wp2_with fail
        obtain ⟨P1, P2, P3, P4⟩ := P.out
        exact bodyPost_ret (v := .tuple #[.agg #[.bool true, .slice A2 L2 C2], .int .i64 0]) (by simp [results, Tryz.results128, go_sem, P3, P4]) rfl ⟨_, rfl, P1, P2⟩
set_option maxRecDepth 100000 in
set_option maxHeartbeats 4000000 in
theorem pceil_any (v : Value) (a : Rat) (k : Nat) (w : World) (h : IsQ w v a) (hk : k ≤ 2000) (sa : BQ a 10000) :
    Calls Tryz.prog 64 #[v, .int .i64 k] w fun e w' => ∃ v', e = .returned (.tuple #[v', .int .i64 0]) ∧ IsZ w' v' (cel a k) ∧ Below w.heap.size w w' := by
  have hK := fun X v w h hX => prounded_ceil v a k X w h hk sa hX
  generalize cel a k = z at *
  obtain ⟨s, A, L, C, D, M, E, rfl, hq⟩ := h.opn
  have es := hq.parts.1
  rw [← es] at hK
  clear es h sa
  obtain ⟨g, hg⟩ : ∃ g, g = w.heap.size := ⟨_, rfl⟩
  obtain ⟨Y0, eY0, hT, bY0⟩ := box1 w 32 #[.bool s, .slice A L C, .slice D M E]
  have zY0 : Y0.heap.size = g + 1 := by rw [eY0, World.size_alloc, ← hg]
  rw [← hg] at hT
  replace hq := hq.below bY0
  have hB := bY0
  obtain ⟨Y1, eY1, hR, bY1⟩ := box1 Y0 30 #[.bool false, .slice none 0 0]
  have zY1 : Y1.heap.size = g + 1 + 1 := by rw [eY1, World.size_alloc, zY0]
  rw [zY0] at hR
  replace hT := hT.below bY1 hT.lt
  replace hq := hq.below bY1
  replace hB := hB.trans (bY1.mono hB.size)
  have hgw : w.heap.size ≤ g := by omega
  have EY := Lib.hid (And.intro hg (And.intro eY0 eY1))
  clear hg eY0 zY0 eY1 zY1
  obtain ⟨c0, c1, c2⟩ := hT.q3
  obtain ⟨c3, c4⟩ := hR.q2
  go_enter Tryz.func64, Tryz.ntmps64
  go_wp2_with fail
  rw [← EY.out.2.1, ← EY.out.2.2, ← EY.out.1]
  refine (hK _ _ _ hq ⟨_, _, hT⟩).mono ?_
  rintro e w2 ⟨v1, rfl, h1, b2⟩
  replace hq := hq.below b2
  replace hT := hT.below b2 hT.lt
  replace hR := hR.below b2 hR.lt
  replace hB := hB.trans (b2.mono hB.size)
  clear c0 c1 c2 c3 c4
  obtain ⟨c5, c6, c7⟩ := hT.q3
  obtain ⟨c8, c9⟩ := hR.q2
  obtain ⟨s1, A1, L1, C1, rfl, h1⟩ := h1.opn
  obtain ⟨p1, p2, p3⟩ := put2 hR (.bool s1) (.slice A1 L1 C1) (by simp [noU]) hB (by omega)
  have rc0 : World.cell? _ ⟨g + 1, 0, none⟩ = some (.bool false) := hR.cell 0
  have rf0 := hR.frozen 0
  have rc1 : World.cell? _ ⟨g + 1, 1, none⟩ = some (.slice none 0 0) := hR.cell 1
  have rf1 := hR.frozen 1
  have P := Lib.hid (And.intro (h1.kept p2) (And.intro p3 p1.cells2))
  clear p1 p2 p3
  go_wp2_with fail
  obtain ⟨P1, P2, P3, P4⟩ := P.out
  exact bodyPost_ret (v := .tuple #[.agg #[.bool s1, .slice A1 L1 C1], .int .i64 0]) (by simp [results, Tryz.results64, go_sem, P3, P4]) rfl ⟨_, rfl, P1, P2⟩
end Go.Proofs.YtdnjdglekifhpaaGreat
namespace Go.Proofs.YtdnjdglekifhpaaGreat
def In64 (a : Int) : Prop := -9223372036854775808 ≤ a ∧ a ≤ 9223372036854775807
end Go.Proofs.YtdnjdglekifhpaaGreat
namespace Go.Proofs.YtdnjdglekifhpaaGreat
open Go.RowKit
attribute [local go_sem ↓] Go.wp_at_zero Go.wp_at_succ
set_option maxHeartbeats 8000000 in
theorem pmul_any (va vb : Value) (a b : Rat) (w : World) (ha : IsQ w va a) (hb : IsQ w vb b) (sa : BQ a 10000) (sb : BQ b 10000) :
    Calls Tryz.prog 56 #[va, vb] w fun e w' => ∃ v', e = .returned v' ∧ IsQ w' v' (a * b) ∧ Below w.heap.size w w' := by
  have hda : 0 < a.den := Rat.den_pos a
  have hdb : 0 < b.den := Rat.den_pos b
  obtain ⟨pa, qa, rfl, hpa, hqa⟩ := ha
  have hza : IsZ w (.agg #[.bool (decide (a.num < 0)), pa]) a.num := ⟨_, rfl, hpa⟩
  obtain ⟨pb, qb, rfl, hpb, hqb⟩ := hb
  have hzb : IsZ w (.agg #[.bool (decide (b.num < 0)), pb]) b.num := ⟨_, rfl, hpb⟩
  have hA := fun w hu hv => pzmul_any (.agg #[.bool (decide (a.num < 0)), pa]) (.agg #[.bool (decide (b.num < 0)), pb]) a.num b.num w hu hv (sa.1.more (by omega)) (sb.1.more (by omega))
  have hM := fun w hu hv => mul_any qa qb a.den b.den w hu hv (sa.2.fin (by omega)) (sb.2.fin (by omega))
  have hK := fun u v w hu hv => prmake_any u v (a.num * b.num) (a.den * b.den) w hu hv ((sa.1.imul sb.1).more (by omega)) ((sa.2.mul sb.2).more (by omega)) (Nat.mul_pos hda hdb)
  rw [← Rat.mul_def'] at hK
  obtain ⟨r, hr⟩ : ∃ r, r = a * b := ⟨_, rfl⟩
  rw [← hr] at hK ⊢
  clear hr
  generalize a.num * b.num = m3 at *
  generalize a.den * b.den = d at *
  generalize a.num = na at *
  generalize b.num = nb at *
  generalize a.den = da at *
  generalize b.den = db at *
  clear hpa hpb sa sb hda hdb
  generalize decide (na < 0) = sa at *
  generalize decide (nb < 0) = sb at *
  obtain ⟨W0, hW, hT, hR, hB⟩ := box3 w 32 32 32 #[.bool sa, pa, qa] #[.bool sb, pb, qb] #[.bool false, .slice none 0 0, .slice none 0 0]
  obtain ⟨g, hg⟩ : ∃ g, g = w.heap.size := ⟨_, rfl⟩
  have hW' := Lib.hid (And.intro hW hg)
  rw [← hg] at hT hR
  clear hW hg
  have hza := hza.below hB
  have hzb := hzb.below hB
  have hqa := hqa.below hB
  have hqb := hqb.below hB
  have hgw : w.heap.size ≤ g := by rw [hW'.out.2]; omega
  go_enter Tryz.func56, Tryz.ntmps56
  go_upto_region 1 with fail
  rw [← hW'.out.1, ← hW'.out.2]
  go_cut [5] (fun s wx => ∃ (X : Nat) (A1 A2 : Option Addr) (L1 L2 C1 C2 : Nat), s = .pointer (some ⟨X, 0, none⟩) ∧ Blk wx X 32 #[.bool (decide (r.num < 0)), .slice A1 L1 C1, .slice A2 L2 C2] ∧ IsN wx (.slice A1 L1 C1) r.num.natAbs ∧ IsN wx (.slice A2 L2 C2) r.den ∧ Blk wx (g + 1 + 1) 32 #[.bool false, .slice none 0 0, .slice none 0 0] ∧ Below w.heap.size w wx)
  case first =>
    go_region_held3 (fun w' => w'.cell? ⟨g, 0, none⟩ = some (.bool sa) ∧ w'.cell? ⟨g, 1, none⟩ = some pa ∧ w'.cell? ⟨g, 2, none⟩ = some qa ∧ w'.cell? ⟨g + 1, 0, none⟩ = some (.bool sb) ∧ w'.cell? ⟨g + 1, 1, none⟩ = some pb ∧ w'.cell? ⟨g + 1, 2, none⟩ = some qb) (first | exact Two.cells33 (hT.below (by first | assumption | exact balloc (by assumption) _ | exact bdrew _ | exact balloc (bdrew _) _) hT.lt) | exact Two.cells33 (hT.below (bset (bset (bset (by assumption) (by assumption) _) (by assumption) _) (by assumption) _) hT.lt))
      (first
        | (go_at_call 121; (with_reducible refine (hA _ ?_ ?_).mono ?_); exact hza.below (by first | assumption | exact balloc (by assumption) _ | exact bdrew _ | exact balloc (bdrew _) _); exact hzb.below (by first | assumption | exact balloc (by assumption) _ | exact bdrew _ | exact balloc (bdrew _) _); rintro x w3 ⟨v3, rfl, h3, b3⟩; (first | ((first | have hXX := newX b3 W0 (by first | assumption | exact bdrew _) | have hXX := newX (undrew b3) W0 (by first | exact Below.refl _ _ | assumption)); obtain ⟨hX, sX⟩ := hXX; try simp only [World.size_drew] at hX sX) | (have hX := hX.below b3 hX.lt) | skip); have B3 := bstep (a := W0) (by first | assumption | exact balloc (by assumption) _ | exact bdrew _ | exact balloc (bdrew _) _) b3)
        | (go_at_call 122; (with_reducible refine (hM _ ?_ ?_).mono ?_); exact hqa.below (by first | assumption | exact balloc (by assumption) _ | exact bdrew _ | exact balloc (bdrew _) _); exact hqb.below (by first | assumption | exact balloc (by assumption) _ | exact bdrew _ | exact balloc (bdrew _) _); rintro x w4 ⟨v4, rfl, h4, b4⟩; (first | ((first | have hXX := newX b4 W0 (by first | assumption | exact bdrew _) | have hXX := newX (undrew b4) W0 (by first | exact Below.refl _ _ | assumption)); obtain ⟨hX, sX⟩ := hXX; try simp only [World.size_drew] at hX sX) | (have hX := hX.below b4 hX.lt) | skip); have B4 := bstep (a := W0) (by first | assumption | exact balloc (by assumption) _ | exact bdrew _ | exact balloc (bdrew _) _) b4; have h3 := h3.below (by first | exact b4 | exact bstep (balloc (Below.refl _ _) _) b4))
        | (go_at_call 120; (with_reducible refine (hK _ _ _ ?_ ?_).mono ?_); exact h3.below (by first | exact Below.refl _ _ | exact balloc (Below.refl _ _) _); exact h4.below (by first | exact Below.refl _ _ | exact balloc (Below.refl _ _) _); rintro x w5 ⟨v5, rfl, ⟨n5, d5, rfl, h5, k5⟩, b5⟩; (first | ((first | have hXX := newX b5 W0 (by first | assumption | exact bdrew _) | have hXX := newX (undrew b5) W0 (by first | exact Below.refl _ _ | assumption)); obtain ⟨hX, sX⟩ := hXX; try simp only [World.size_drew] at hX sX) | (have hX := hX.below b5 hX.lt) | skip); have B5 := bstep (a := W0) (by first | assumption | exact balloc (by assumption) _ | exact bdrew _ | exact balloc (bdrew _) _) b5; obtain ⟨A1, L1, C1, rfl⟩ := h5.frm; obtain ⟨A2, L2, C2, rfl⟩ := k5.frm; (try (have x0 := hX.cell 0; have x1 := hX.cell 1; have x2 := hX.cell 2; have y0 := hX.frozen 0; have y1 := hX.frozen 1; have y2 := hX.frozen 2))))
    all_goals (go_wp2_with fail; go_meet)
    all_goals
      have hRlt := hR.lt
      have hR := hR.below B5 hR.lt
      have hB0 := hB
      have hB := hB.trans (B5.mono hB.size)
      have hsz := hT.lt
      first
        | exact ⟨_, _, _, _, _, _, _, rfl, Blk.new _ _ _, h5.below (balloc (Below.refl _ _) _), k5.below (balloc (Below.refl _ _) _), hR.alloc _, hB.alloc hB.size _⟩
        | (obtain ⟨p1, p2, p3⟩ := put3 hX (.bool (decide (r.num < 0))) (.slice A1 L1 C1) (.slice A2 L2 C2) (by simp [noU]) hB (Nat.le_trans hB0.size (by first | assumption | exact Nat.le_refl _))
           exact ⟨_, _, _, _, _, _, _, rfl, p1, p2 _ _ h5, p2 _ _ k5, hR.farX (Nat.ne_of_lt (Nat.lt_of_lt_of_le hRlt (by first | assumption | exact Nat.le_refl _))) _ _ _, p3⟩)
  obtain ⟨X, A1, A2, L1, L2, C1, C2, rfl, hX, h1, h2, hR, hB⟩ := hcut
  obtain ⟨x0, x1, x2⟩ := hX.cells3
  obtain ⟨p1, p2, p3⟩ := put3 hR (.bool (decide (r.num < 0))) (.slice A1 L1 C1) (.slice A2 L2 C2) (by simp [noU]) hB (by omega)
  have q0 := hR.cell 0
  have z0 := hR.frozen 0
  have q1 := hR.cell 1
  have z1 := hR.frozen 1
  have q2 := hR.cell 2
  have z2 := hR.frozen 2
  have P := Lib.hid (And.intro (⟨_, _, rfl, p2 _ _ h1, p2 _ _ h2⟩ : IsQ _ (.agg #[.bool (decide (r.num < 0)), .slice A1 L1 C1, .slice A2 L2 C2]) r) (And.intro p3 p1.cells3))
  clear p1 p2 p3 
  go_wp2
  obtain ⟨P1, P2, P3, P4, P5⟩ := P.out
  exact bodyPost_ret (v := .agg #[.bool (decide (r.num < 0)), .slice A1 L1 C1, .slice A2 L2 C2]) (by simp [results, Tryz.results56, go_sem, P3, P4, P5]) rfl ⟨_, rfl, P1, P2⟩
end Go.Proofs.YtdnjdglekifhpaaGreat
namespace Go.Proofs.YtdnjdglekifhpaaGreat
open Go.RowKit
attribute [local go_sem ↓] Go.wp_at_zero Go.wp_at_succ
set_option maxRecDepth 100000 in
set_option maxHeartbeats 8000000 in
theorem pnum_any (n : Int) (k : Nat) (w : World) (hk : k ≤ 40) (ha : In64 n) :
    Calls Tryz.prog 63 #[.int .i64 n, .int .i64 k] w fun e w' => ∃ v', e = .returned (.tuple #[v', .bool true]) ∧ IsQ w' v' (mkRat n (2 ^ k)) ∧ Below w.heap.size w w' := by
  have hO := fun w => pzof_any n ha.1 ha.2 w
  have sz : Sz n.natAbs 1 := Sz.u64 (by have := ha.1; have := ha.2; unfold W64; omega)
  have hBk := fun u w h => pdback_any u n k (by omega) w h (sz.more (by omega))
  generalize mkRat n (2 ^ k) = r at *
  have hd0 : decide ((k : Int) < 0) = false := decide_eq_false (by omega)
  have hd1 : ¬ (40 : Int) < (k : Int) := by omega
  clear sz ha
  obtain ⟨g, hg⟩ : ∃ g, g = w.heap.size := ⟨_, rfl⟩
  obtain ⟨Y0, eY0, hR, bY0⟩ := box1 w 32 #[.bool false, .slice none 0 0, .slice none 0 0]
  have zY0 : Y0.heap.size = g + 1 := by rw [eY0, World.size_alloc, ← hg]
  rw [← hg] at hR
  have hB := bY0
  have hgw : w.heap.size ≤ g := by omega
  have EY := Lib.hid (And.intro hg eY0)
  clear hg eY0 zY0
  obtain ⟨c0, c1, c2⟩ := hR.q3
  go_enter Tryz.func63, Tryz.ntmps63
  go_wp2_with fail
  rw [← EY.out.2, ← EY.out.1]
  refine (hO _).mono ?_
  rintro e w2 ⟨v1, rfl, z1, b2⟩
  replace hR := hR.below b2 hR.lt
  replace hB := hB.trans (b2.mono hB.size)
  clear c0 c1 c2
  obtain ⟨c3, c4, c5⟩ := hR.q3
  go_wp2_with fail
  refine (hBk _ _ z1).mono ?_
  rintro e w4 ⟨v2, rfl, q2, b4⟩
  replace hR := hR.below b4 hR.lt
  replace z1 := z1.below b4
  replace hB := hB.trans (b4.mono hB.size)
  clear c3 c4 c5
  obtain ⟨c6, c7, c8⟩ := hR.q3
  obtain ⟨s2, A2, L2, C2, D2, M2, E2, rfl, q2⟩ := q2.opn
  obtain ⟨V6, eV, hV, bV6⟩ := box1 w4 32 #[.bool s2, .slice A2 L2 C2, .slice D2 M2 E2]
  obtain ⟨X6, eX⟩ : ∃ X, X = w4.heap.size := ⟨_, rfl⟩
  rw [← eX] at hV
  have lX6 : w.heap.size ≤ X6 := by rw [eX]; exact hB.size
  have dX6_hR : g ≠ X6 := by have := hR.lt; omega
  have EV6 := Lib.hid (And.intro eV eX)
  clear eV eX
  go_upto_region 4 with fail
  rw [← EV6.out.1, ← EV6.out.2]
  replace hR := hR.below bV6 hR.lt
  replace q2 := q2.below bV6
  replace hB := hB.trans (bV6.mono hB.size)
  clear c6 c7 c8
  obtain ⟨c9, c10, c11⟩ := hR.q3
  obtain ⟨c12, c13, c14⟩ := hV.q3
  obtain ⟨p1, p2, p3⟩ := put3 hR (.bool s2) (.slice A2 L2 C2) (.slice D2 M2 E2) (by simp [noU]) hB (by omega)
  have rc0 : World.cell? _ ⟨g, 0, none⟩ = some (.bool false) := hR.cell 0
  have rf0 := hR.frozen 0
  have rc1 : World.cell? _ ⟨g, 1, none⟩ = some (.slice none 0 0) := hR.cell 1
  have rf1 := hR.frozen 1
  have rc2 : World.cell? _ ⟨g, 2, none⟩ = some (.slice none 0 0) := hR.cell 2
  have rf2 := hR.frozen 2
  have P := Lib.hid (And.intro (q2.kept p2) (And.intro p3 p1.cells3))
  clear p1 p2 p3
  go_wp2_with fail
  obtain ⟨P1, P2, P3, P4, P5⟩ := P.out
  exact bodyPost_ret (v := .tuple #[.agg #[.bool s2, .slice A2 L2 C2, .slice D2 M2 E2], .bool true]) (by simp [results, Tryz.results63, go_sem, P3, P4, P5]) rfl ⟨_, rfl, P1, P2⟩
theorem field_zed (s : Bool) (v : Value) (w : World) : (Instr.field 30 (.agg #[.bool s, v]) 1).run Tryz.prog w = .ok v w := by kernel_rfl
set_option maxRecDepth 100000 in
set_option maxHeartbeats 8000000 in
theorem pover_any (p q : Int) (w : World) (hp : In64 p) (hq : In64 q) (h0 : 0 < q) :
    Calls Tryz.prog 57 #[.int .i64 p, .int .i64 q] w fun e w' => ∃ v', e = .returned v' ∧ IsQ w' v' (mkRat p q.natAbs) ∧ Below w.heap.size w w' := by
  have hO1 := fun w => pzof_any p hp.1 hp.2 w
  have hO2 := fun w => pzof_any q hq.1 hq.2 w
  have sp : Sz p.natAbs 1 := Sz.u64 (by have := hp.1; have := hp.2; unfold W64; omega)
  have sq : Sz q.natAbs 1 := Sz.u64 (by have := hq.1; have := hq.2; unfold W64; omega)
  have hM := fun u v w hu hv => prmake_any u v p q.natAbs w hu hv (sp.more (by omega)) (sq.more (by omega)) (by omega)
  generalize mkRat p q.natAbs = r at *
  clear sp sq hp hq h0
  obtain ⟨g, hg⟩ : ∃ g, g = w.heap.size := ⟨_, rfl⟩
  obtain ⟨Y0, eY0, hR, bY0⟩ := box1 w 32 #[.bool false, .slice none 0 0, .slice none 0 0]
  have zY0 : Y0.heap.size = g + 1 := by rw [eY0, World.size_alloc, ← hg]
  rw [← hg] at hR
  have hB := bY0
  have hgw : w.heap.size ≤ g := by omega
  have EY := Lib.hid (And.intro hg eY0)
  clear hg eY0 zY0
  obtain ⟨c0, c1, c2⟩ := hR.q3
  go_enter Tryz.func57, Tryz.ntmps57
  go_wp2_with fail
  rw [← EY.out.2, ← EY.out.1]
  refine (hO1 _).mono ?_
  rintro e w2 ⟨v1, rfl, z1, b2⟩
  replace hR := hR.below b2 hR.lt
  replace hB := hB.trans (b2.mono hB.size)
  clear c0 c1 c2
  obtain ⟨c3, c4, c5⟩ := hR.q3
  go_wp2_with fail
  refine (hO2 _).mono ?_
  rintro e w4 ⟨v2, rfl, z2, b4⟩
  replace hR := hR.below b4 hR.lt
  replace z1 := z1.below b4
  replace hB := hB.trans (b4.mono hB.size)
  clear c3 c4 c5
  obtain ⟨c6, c7, c8⟩ := hR.q3
  obtain ⟨s2, A2, L2, C2, rfl, z2⟩ := z2.opn
  have n2 := z2.parts.2
  have hfl := fun w => field_zed s2 (.slice A2 L2 C2) w
  go_wp2_with fail
  refine (hM _ _ _ z1 n2).mono ?_
  rintro e w6 ⟨v3, rfl, q3, b6⟩
  replace hR := hR.below b6 hR.lt
  replace z1 := z1.below b6
  replace n2 := n2.below b6
  replace z2 := z2.below b6
  replace hB := hB.trans (b6.mono hB.size)
  clear c6 c7 c8
  obtain ⟨c9, c10, c11⟩ := hR.q3
  obtain ⟨s3, A3, L3, C3, D3, M3, E3, rfl, q3⟩ := q3.opn
  obtain ⟨V8, eV, hV, bV8⟩ := box1 w6 32 #[.bool s3, .slice A3 L3 C3, .slice D3 M3 E3]
  obtain ⟨X8, eX⟩ : ∃ X, X = w6.heap.size := ⟨_, rfl⟩
  rw [← eX] at hV
  have lX8 : w.heap.size ≤ X8 := by rw [eX]; exact hB.size
  have dX8_hR : g ≠ X8 := by have := hR.lt; omega
  have EV8 := Lib.hid (And.intro eV eX)
  clear eV eX
  go_upto_region 2 with fail
  rw [← EV8.out.1, ← EV8.out.2]
  replace hR := hR.below bV8 hR.lt
  replace z1 := z1.below bV8
  replace n2 := n2.below bV8
  replace z2 := z2.below bV8
  replace q3 := q3.below bV8
  replace hB := hB.trans (bV8.mono hB.size)
  clear c9 c10 c11
  obtain ⟨c12, c13, c14⟩ := hR.q3
  obtain ⟨c15, c16, c17⟩ := hV.q3
  obtain ⟨p1, p2, p3⟩ := put3 hR (.bool s3) (.slice A3 L3 C3) (.slice D3 M3 E3) (by simp [noU]) hB (by omega)
  have rc0 : World.cell? _ ⟨g, 0, none⟩ = some (.bool false) := hR.cell 0
  have rf0 := hR.frozen 0
  have rc1 : World.cell? _ ⟨g, 1, none⟩ = some (.slice none 0 0) := hR.cell 1
  have rf1 := hR.frozen 1
  have rc2 : World.cell? _ ⟨g, 2, none⟩ = some (.slice none 0 0) := hR.cell 2
  have rf2 := hR.frozen 2
  have P := Lib.hid (And.intro (q3.kept p2) (And.intro p3 p1.cells3))
  clear p1 p2 p3
  go_wp2_with fail
  obtain ⟨P1, P2, P3, P4, P5⟩ := P.out
  exact bodyPost_ret (v := .agg #[.bool s3, .slice A3 L3 C3, .slice D3 M3 E3]) (by simp [results, Tryz.results57, go_sem, P3, P4, P5]) rfl ⟨_, rfl, P1, P2⟩
def nextQ (beta : Int) (k : Nat) (a m : Rat) : Rat := mkRat (cel (mkRat beta (2 ^ k) * a + m) 20) (2 ^ 20)
theorem sz_cel {a : Rat} {k n : Nat} (h : BQ a n) : Sz (cel a k).natAbs (n + k + 4) := by
  rw [rnd_cel, sided_abs]
  unfold rndN
  refine Sz.le (a := a.num.natAbs * 2 ^ k + 1) ((Sz.add (h.1.mul (Sz.two_pow k)) Sz.one).more (by omega)) ?_
  have := Nat.div_le_self (a.num.natAbs * 2 ^ k) a.den
  split <;> omega
set_option maxRecDepth 100000 in
set_option maxHeartbeats 8000000 in
theorem pnext_any (beta : Int) (k : Nat) (va vm : Value) (a m : Rat) (w : World) (hk : k ≤ 40) (hb : In64 beta) (hb0 : 0 ≤ beta) (hb1 : beta ≤ ((2 ^ k : Nat) : Int)) (ha : IsQ w va a) (hm : IsQ w vm m) (sa : BQ a 2000) (sm : BQ m 2000) (na : decide (a.num < 0) = false) (nm : decide (m.num < 0) = false) :
    Calls Tryz.prog 17 #[.int .i64 beta, .int .i64 k, va, vm] w fun e w' => ∃ v', e = .returned (.tuple #[v', .int .i64 0]) ∧ IsQ w' v' (nextQ beta k a m) ∧ Below w.heap.size w w' := by
  have hN := fun w => pnum_any beta k w hk hb
  have sx : BQ (mkRat beta (2 ^ k)) 41 := BQ.mk ((Sz.u64 (by have := hb.1; have := hb.2; unfold W64; omega)).more (by omega)) ((Sz.two_pow k).more (by omega)) (by omega)
  have hMu := fun u v w hu hv => pmul_any u v (mkRat beta (2 ^ k)) a w hu hv (sx.more (by omega)) (sa.more (by omega))
  have s1 := sx.mul sa
  have hAd := fun u v w hu hv => pradd_any u v (mkRat beta (2 ^ k) * a) m w hu hv (s1.more (by omega)) (sm.more (by omega))
  have s2 := s1.add sm
  have hCe := fun u w hu => pceil_any u (mkRat beta (2 ^ k) * a + m) 20 w hu (by omega) (s2.more (by omega))
  have s3 := sz_cel (k := 20) s2
  have hBk := fun u w hu => pdback_any u (cel (mkRat beta (2 ^ k) * a + m) 20) 20 (by omega) w hu (s3.more (by omega))
  rw [show mkRat (cel (mkRat beta (2 ^ k) * a + m) 20) (2 ^ 20) = nextQ beta k a m from rfl] at hBk
  generalize nextQ beta k a m = r at *
  generalize cel (mkRat beta (2 ^ k) * a + m) 20 = z at *
  generalize mkRat beta (2 ^ k) * a + m = r2 at *
  generalize mkRat beta (2 ^ k) * a = r1 at *
  generalize mkRat beta (2 ^ k) = x at *
  have hP40 : 2 ^ k ≤ 2 ^ 40 := Nat.pow_le_pow_right (by omega) hk
  have hPi : ((2 ^ k : Nat) : Int) = (2 : Int) ^ k := by simp
  obtain ⟨P, hP⟩ : ∃ P, P = 2 ^ k := ⟨_, rfl⟩
  rw [← hP] at hb1 hP40 hPi
  have w1 : IntKind.i64.wrap ((2 : Int) ^ k) = (P : Int) := by rw [← hPi, IntKind.wrap_i64]; omega
  have w2 : IntKind.i64.wrap (1 * (2 : Int) ^ k) = (P : Int) := by rw [Int.one_mul]; exact w1
  obtain ⟨s1, A1, L1, C1, D1, M1, E1, rfl, q1⟩ := ha.opn
  obtain ⟨s2, A2, L2, C2, D2, M2, E2, rfl, q2⟩ := hm.opn
  obtain rfl : s1 = false := by rw [q1.parts.1]; exact na
  obtain rfl : s2 = false := by rw [q2.parts.1]; exact nm
  have hd0 : decide (beta < 0) = false := decide_eq_false (by omega)
  have hd1 : ¬ (P : Int) < beta := by omega
  clear hP hPi hP40 s3 sx sa sm na nm ha hm hb
  obtain ⟨g, hg⟩ : ∃ g, g = w.heap.size := ⟨_, rfl⟩
  obtain ⟨Y0, eY0, hA, bY0⟩ := box1 w 32 #[.bool false, .slice A1 L1 C1, .slice D1 M1 E1]
  have zY0 : Y0.heap.size = g + 1 := by rw [eY0, World.size_alloc, ← hg]
  rw [← hg] at hA
  replace q1 := q1.below bY0
  replace q2 := q2.below bY0
  have hB := bY0
  obtain ⟨Y1, eY1, hM, bY1⟩ := box1 Y0 32 #[.bool false, .slice A2 L2 C2, .slice D2 M2 E2]
  have zY1 : Y1.heap.size = g + 1 + 1 := by rw [eY1, World.size_alloc, zY0]
  rw [zY0] at hM
  replace hA := hA.below bY1 hA.lt
  replace q1 := q1.below bY1
  replace q2 := q2.below bY1
  replace hB := hB.trans (bY1.mono hB.size)
  obtain ⟨Y2, eY2, hR, bY2⟩ := box1 Y1 32 #[.bool false, .slice none 0 0, .slice none 0 0]
  have zY2 : Y2.heap.size = g + 1 + 1 + 1 := by rw [eY2, World.size_alloc, zY1]
  rw [zY1] at hR
  replace hA := hA.below bY2 hA.lt
  replace hM := hM.below bY2 hM.lt
  replace q1 := q1.below bY2
  replace q2 := q2.below bY2
  replace hB := hB.trans (bY2.mono hB.size)
  have hgw : w.heap.size ≤ g := by omega
  have EY := Lib.hid (And.intro hg (And.intro eY0 (And.intro eY1 eY2)))
  clear hg eY0 zY0 eY1 zY1 eY2 zY2
  obtain ⟨c0, c1, c2⟩ := hA.q3
  obtain ⟨c3, c4, c5⟩ := hM.q3
  obtain ⟨c6, c7, c8⟩ := hR.q3
  go_enter Tryz.func17, Tryz.ntmps17
  go_wp2_with fail
  rw [← EY.out.2.1, ← EY.out.2.2.1, ← EY.out.2.2.2, ← EY.out.1]
  refine (hN _).mono ?_
  rintro e w2 ⟨v3, rfl, q3, b2⟩
  replace q1 := q1.below b2
  replace q2 := q2.below b2
  replace hA := hA.below b2 hA.lt
  replace hM := hM.below b2 hM.lt
  replace hR := hR.below b2 hR.lt
  replace hB := hB.trans (b2.mono hB.size)
  clear c0 c1 c2 c3 c4 c5 c6 c7 c8
  obtain ⟨c9, c10, c11⟩ := hA.q3
  obtain ⟨c12, c13, c14⟩ := hM.q3
  obtain ⟨c15, c16, c17⟩ := hR.q3
  obtain ⟨s3, A3, L3, C3, D3, M3, E3, rfl, q3⟩ := q3.opn
  obtain ⟨V4, eV, hV, bV4⟩ := box1 w2 32 #[.bool s3, .slice A3 L3 C3, .slice D3 M3 E3]
  obtain ⟨X4, eX⟩ : ∃ X, X = w2.heap.size := ⟨_, rfl⟩
  rw [← eX] at hV
  have lX4 : w.heap.size ≤ X4 := by rw [eX]; exact hB.size
  have dX4_hA : g ≠ X4 := by have := hA.lt; omega
  have dX4_hM : g + 1 ≠ X4 := by have := hM.lt; omega
  have dX4_hR : g + 1 + 1 ≠ X4 := by have := hR.lt; omega
  have EV4 := Lib.hid (And.intro eV eX)
  clear eV eX
  go_upto_region 2 with fail
  rw [← EV4.out.1, ← EV4.out.2]
  replace q1 := q1.below bV4
  replace q2 := q2.below bV4
  replace hA := hA.below bV4 hA.lt
  replace hM := hM.below bV4 hM.lt
  replace hR := hR.below bV4 hR.lt
  replace q3 := q3.below bV4
  replace hB := hB.trans (bV4.mono hB.size)
  clear c9 c10 c11 c12 c13 c14 c15 c16 c17
  obtain ⟨c18, c19, c20⟩ := hA.q3
  obtain ⟨c21, c22, c23⟩ := hM.q3
  obtain ⟨c24, c25, c26⟩ := hR.q3
  obtain ⟨c27, c28, c29⟩ := hV.q3
  go_upto_region 4 with fail
  replace hB := hB.drew
  replace q1 := q1.below (bdrew _)
  replace q2 := q2.below (bdrew _)
  replace hA := hA.drew
  replace hM := hM.drew
  replace hR := hR.drew
  replace q3 := q3.below (bdrew _)
  replace hV := hV.drew
  clear c18 c19 c20 c21 c22 c23 c24 c25 c26 c27 c28 c29
  go_cut [12] (fun s12 wx => ∃ X9 s6 A6 L6 C6, s12 = .pointer (some ⟨X9, 0, none⟩) ∧ Blk wx (g + 1 + 1) 32 #[.bool false, .slice none 0 0, .slice none 0 0] ∧ IsZ wx (.agg #[.bool s6, .slice A6 L6 C6]) z ∧ Blk wx X9 30 #[.bool s6, .slice A6 L6 C6] ∧ Below w.heap.size w wx ∧ w.heap.size ≤ X9 ∧ g + 1 + 1 ≠ X9)
  case first =>
    refine wp_region_noPanic ?_
    refine wp_region_held_drew (S := fun w' => w'.cell? ⟨X4, 0, none⟩ = some (.bool s3) ∧ w'.cell? ⟨X4, 1, none⟩ = some (.slice A3 L3 C3) ∧ w'.cell? ⟨X4, 2, none⟩ = some (.slice D3 M3 E3) ∧ w'.cell? ⟨g, 0, none⟩ = some (.bool false) ∧ w'.cell? ⟨g, 1, none⟩ = some (.slice A1 L1 C1) ∧ w'.cell? ⟨g, 2, none⟩ = some (.slice D1 M1 E1) ∧ w'.cell? ⟨g + 1, 0, none⟩ = some (.bool false) ∧ w'.cell? ⟨g + 1, 1, none⟩ = some (.slice A2 L2 C2) ∧ w'.cell? ⟨g + 1, 2, none⟩ = some (.slice D2 M2 E2)) (by kernel_rfl) ?_ (fun hHeld => ?_)
    · exact ⟨hV.cell 0, hV.cell 1, hV.cell 2, hA.cell 0, hA.cell 1, hA.cell 2, hM.cell 0, hM.cell 1, hM.cell 2⟩
    obtain ⟨wd4_1, hwd⟩ : ∃ q, q = V4.drew := ⟨_, rfl⟩
    rw [← hwd] at hB q1 q2 hA hM hR q3 hV hHeld ⊢
    clear hwd
    refine tkH 0 rfl (v := ?v1) ?h1 ?r1
    case h1 => intro w hSw; (try dsimp only at hSw); go_simp; try (with_reducible rfl)
    refine tkH 1 rfl (v := ?v2) ?h2 ?r2
    case h2 => intro w hSw; (try dsimp only at hSw); go_simp; try (with_reducible rfl)
    refine tkH 3 rfl (v := ?v3) ?h3 ?r3
    case h3 => intro w hSw; (try dsimp only at hSw); go_simp; try (with_reducible rfl)
    try simp only [Act.put, lay1, lay2, lay3, lay4, lay5, lay6]
    refine wpAnyH_ready (rs := [2, 9]) (by kernel_rfl) (by simp) (AllReadyH.cons rfl (fun K hK => ?_) (AllReadyH.cons rfl (fun K hK => ?_) AllReadyH.nil))
    · go_simp
      refine (hMu _ _ _ q3 q1).mono ?_
      rintro e u4_1 ⟨v4, rfl, q4, b4_1⟩
      replace q1 := q1.below b4_1
      replace q2 := q2.below b4_1
      replace hA := hA.below b4_1 hA.lt
      replace hM := hM.below b4_1 hM.lt
      replace hR := hR.below b4_1 hR.lt
      replace q3 := q3.below b4_1
      replace hV := hV.below b4_1 hV.lt
      replace hB := hB.trans (b4_1.mono hB.size)
      obtain ⟨s4, A4, L4, C4, D4, M4, E4, rfl, q4⟩ := q4.opn
      go_wp2_with fail
      refine hK.out _ _ ?_ (fun hHeld => ?_)
      · exact ⟨hV.cell 0, hV.cell 1, hV.cell 2, hA.cell 0, hA.cell 1, hA.cell 2, hM.cell 0, hM.cell 1, hM.cell 2⟩
      clear hK K
      try simp only [Act.put, lay1, lay2, lay3, lay4, lay5, lay6]
      refine wpAnyH_ready (rs := [4, 9]) (by kernel_rfl) (by simp) (AllReadyH.cons rfl (fun K hK => ?_) (AllReadyH.cons rfl (fun K hK => ?_) AllReadyH.nil))
      · go_simp
        refine (hAd _ _ _ q4 q2).mono ?_
        rintro e u4_2 ⟨v5, rfl, q5, b4_2⟩
        replace q1 := q1.below b4_2
        replace q2 := q2.below b4_2
        replace hA := hA.below b4_2 hA.lt
        replace hM := hM.below b4_2 hM.lt
        replace hR := hR.below b4_2 hR.lt
        replace q3 := q3.below b4_2
        replace hV := hV.below b4_2 hV.lt
        replace q4 := q4.below b4_2
        replace hB := hB.trans (b4_2.mono hB.size)
        obtain ⟨s5, A5, L5, C5, D5, M5, E5, rfl, q5⟩ := q5.opn
        go_wp2_with fail
        refine hK.out _ _ ?_ (fun hHeld => ?_)
        · exact ⟨hV.cell 0, hV.cell 1, hV.cell 2, hA.cell 0, hA.cell 1, hA.cell 2, hM.cell 0, hM.cell 1, hM.cell 2⟩
        clear hK K
        try simp only [Act.put, lay1, lay2, lay3, lay4, lay5, lay6]
        refine wpAnyH_ready (rs := [5, 9]) (by kernel_rfl) (by simp) (AllReadyH.cons rfl (fun K hK => ?_) (AllReadyH.cons rfl (fun K hK => ?_) AllReadyH.nil))
        · go_simp
          refine (hCe _ _ q5).mono ?_
          rintro e u4_3 ⟨v6, rfl, z6, b4_3⟩
          replace q1 := q1.below b4_3
          replace q2 := q2.below b4_3
          replace hA := hA.below b4_3 hA.lt
          replace hM := hM.below b4_3 hM.lt
          replace hR := hR.below b4_3 hR.lt
          replace q3 := q3.below b4_3
          replace hV := hV.below b4_3 hV.lt
          replace q4 := q4.below b4_3
          replace q5 := q5.below b4_3
          replace hB := hB.trans (b4_3.mono hB.size)
          obtain ⟨s6, A6, L6, C6, rfl, z6⟩ := z6.opn
          go_wp2_with fail
          refine hK.out _ _ ?_ (fun hHeld => ?_)
          · exact ⟨hV.cell 0, hV.cell 1, hV.cell 2, hA.cell 0, hA.cell 1, hA.cell 2, hM.cell 0, hM.cell 1, hM.cell 2⟩
          clear hK K
          refine tkH 6 rfl (v := ?v4) ?h4 ?r4
          case h4 => intro w hSw; (try dsimp only at hSw); go_simp; try (with_reducible rfl)
          refine tkH 7 rfl (v := ?v5) ?h5 ?r5
          case h5 => intro w hSw; (try dsimp only at hSw); go_simp; try (with_reducible rfl)
          refine tkH 8 rfl (v := ?v6) ?h6 ?r6
          case h6 => intro w hSw; (try dsimp only at hSw); go_simp; try (with_reducible rfl)
          try simp only [Act.put, lay1, lay2, lay3, lay4, lay5, lay6]
          refine wpAnyH_ready (rs := [9]) (by kernel_rfl) (by simp) (AllReadyH.cons rfl (fun K hK => ?_) AllReadyH.nil)
          obtain ⟨u4_4, eu, hU, b4_4⟩ := box1 u4_3 30 #[.bool false, .slice none 0 0]
          obtain ⟨X9, en⟩ : ∃ X, X = u4_3.heap.size := ⟨_, rfl⟩
          rw [← en] at hU
          have lX9 : w.heap.size ≤ X9 := by rw [en]; exact hB.size
          have dX9_hA : g ≠ X9 := by have := hA.lt; omega
          have dX9_hM : g + 1 ≠ X9 := by have := hM.lt; omega
          have dX9_hR : g + 1 + 1 ≠ X9 := by have := hR.lt; omega
          have dX9_hV : X4 ≠ X9 := by have := hV.lt; omega
          have EUX9 := Lib.hid (And.intro eu en)
          clear eu en
          go_simp
          rw [← EUX9.out.1, ← EUX9.out.2]
          replace q1 := q1.below b4_4
          replace q2 := q2.below b4_4
          replace hA := hA.below b4_4 hA.lt
          replace hM := hM.below b4_4 hM.lt
          replace hR := hR.below b4_4 hR.lt
          replace q3 := q3.below b4_4
          replace hV := hV.below b4_4 hV.lt
          replace q4 := q4.below b4_4
          replace q5 := q5.below b4_4
          replace z6 := z6.below b4_4
          replace hB := hB.trans (b4_4.mono hB.size)
          refine hK.out _ _ ?_ (fun hHeld => ?_)
          · exact ⟨hV.cell 0, hV.cell 1, hV.cell 2, hA.cell 0, hA.cell 1, hA.cell 2, hM.cell 0, hM.cell 1, hM.cell 2⟩
          clear hK K
          try simp only [Act.put, lay1, lay2, lay3, lay4, lay5, lay6]
          refine wpAnyH_ready (rs := [10]) (by kernel_rfl) (by simp) (AllReadyH.cons rfl (fun K hK => ?_) AllReadyH.nil)
          obtain ⟨u4_5, eu, hU', kz, kb, kB⟩ := fill2 hU (.bool s6) (.slice A6 L6 C6) (by simp [noU])
          have x0 : World.cell? _ ⟨X9, 0, none⟩ = some (.bool false) := hU.cell 0
          have x1 : World.cell? _ ⟨X9, 1, none⟩ = some (.slice none 0 0) := hU.cell 1
          have xf := hU.frozen
          go_simp
          rw [← eu]
          replace q1 := q1.filled kz
          replace q2 := q2.filled kz
          replace hA := kb _ _ _ hA (by omega)
          replace hM := kb _ _ _ hM (by omega)
          replace hR := kb _ _ _ hR (by omega)
          replace q3 := q3.filled kz
          replace hV := kb _ _ _ hV (by omega)
          replace q4 := q4.filled kz
          replace q5 := q5.filled kz
          replace z6 := z6.filled kz
          replace hB := kB _ _ (by omega) hB
          replace hU := hU'
          clear hU' kz kb kB eu xf x0 x1
          refine hK.out _ _ ?_ (fun hHeld => ?_)
          · exact ⟨hV.cell 0, hV.cell 1, hV.cell 2, hA.cell 0, hA.cell 1, hA.cell 2, hM.cell 0, hM.cell 1, hM.cell 2⟩
          clear hK K
          refine tkH 11 rfl (v := ?v7) ?h7 ?r7
          case h7 => intro w hSw; (try dsimp only at hSw); go_simp; try (with_reducible rfl)
          try simp only [Act.put, lay1, lay2, lay3, lay4, lay5, lay6]
          try dsimp only
          try simp only [Act.put, lay1, lay2, lay3, lay4, lay5, lay6]
          refine wpAnyH_done (by kernel_rfl) ?_ _
          refine NoPanic.normal ?_
          go_wp2_with fail
          go_meet
          exact ⟨X9, s6, A6, L6, C6, rfl, hR, z6, hU, hB, lX9, (by assumption)⟩
        · obtain ⟨u4_6, eu, hU, b4_6⟩ := box1 u4_2 30 #[.bool false, .slice none 0 0]
          obtain ⟨X9, en⟩ : ∃ X, X = u4_2.heap.size := ⟨_, rfl⟩
          rw [← en] at hU
          have lX9 : w.heap.size ≤ X9 := by rw [en]; exact hB.size
          have dX9_hA : g ≠ X9 := by have := hA.lt; omega
          have dX9_hM : g + 1 ≠ X9 := by have := hM.lt; omega
          have dX9_hR : g + 1 + 1 ≠ X9 := by have := hR.lt; omega
          have dX9_hV : X4 ≠ X9 := by have := hV.lt; omega
          have EUX9 := Lib.hid (And.intro eu en)
          clear eu en
          go_simp
          rw [← EUX9.out.1, ← EUX9.out.2]
          replace q1 := q1.below b4_6
          replace q2 := q2.below b4_6
          replace hA := hA.below b4_6 hA.lt
          replace hM := hM.below b4_6 hM.lt
          replace hR := hR.below b4_6 hR.lt
          replace q3 := q3.below b4_6
          replace hV := hV.below b4_6 hV.lt
          replace q4 := q4.below b4_6
          replace q5 := q5.below b4_6
          replace hB := hB.trans (b4_6.mono hB.size)
          refine hK.out _ _ ?_ (fun hHeld => ?_)
          · exact ⟨hV.cell 0, hV.cell 1, hV.cell 2, hA.cell 0, hA.cell 1, hA.cell 2, hM.cell 0, hM.cell 1, hM.cell 2⟩
          clear hK K
          try simp only [Act.put, lay1, lay2, lay3, lay4, lay5, lay6]
          refine wpAnyH_ready (rs := [5]) (by kernel_rfl) (by simp) (AllReadyH.cons rfl (fun K hK => ?_) AllReadyH.nil)
          go_simp
          refine (hCe _ _ q5).mono ?_
          rintro e u4_7 ⟨v6, rfl, z6, b4_7⟩
          replace q1 := q1.below b4_7
          replace q2 := q2.below b4_7
          replace hA := hA.below b4_7 hA.lt
          replace hM := hM.below b4_7 hM.lt
          replace hR := hR.below b4_7 hR.lt
          replace q3 := q3.below b4_7
          replace hV := hV.below b4_7 hV.lt
          replace q4 := q4.below b4_7
          replace q5 := q5.below b4_7
          replace hU := hU.below b4_7 hU.lt
          replace hB := hB.trans (b4_7.mono hB.size)
          obtain ⟨s6, A6, L6, C6, rfl, z6⟩ := z6.opn
          go_wp2_with fail
          refine hK.out _ _ ?_ (fun hHeld => ?_)
          · exact ⟨hV.cell 0, hV.cell 1, hV.cell 2, hA.cell 0, hA.cell 1, hA.cell 2, hM.cell 0, hM.cell 1, hM.cell 2⟩
          clear hK K
          refine tkH 6 rfl (v := ?v8) ?h8 ?r8
          case h8 => intro w hSw; (try dsimp only at hSw); go_simp; try (with_reducible rfl)
          refine tkH 7 rfl (v := ?v9) ?h9 ?r9
          case h9 => intro w hSw; (try dsimp only at hSw); go_simp; try (with_reducible rfl)
          refine tkH 8 rfl (v := ?v10) ?h10 ?r10
          case h10 => intro w hSw; (try dsimp only at hSw); go_simp; try (with_reducible rfl)
          try simp only [Act.put, lay1, lay2, lay3, lay4, lay5, lay6]
          refine wpAnyH_ready (rs := [10]) (by kernel_rfl) (by simp) (AllReadyH.cons rfl (fun K hK => ?_) AllReadyH.nil)
          obtain ⟨u4_8, eu, hU', kz, kb, kB⟩ := fill2 hU (.bool s6) (.slice A6 L6 C6) (by simp [noU])
          have x0 : World.cell? _ ⟨X9, 0, none⟩ = some (.bool false) := hU.cell 0
          have x1 : World.cell? _ ⟨X9, 1, none⟩ = some (.slice none 0 0) := hU.cell 1
          have xf := hU.frozen
          go_simp
          rw [← eu]
          replace q1 := q1.filled kz
          replace q2 := q2.filled kz
          replace hA := kb _ _ _ hA (by omega)
          replace hM := kb _ _ _ hM (by omega)
          replace hR := kb _ _ _ hR (by omega)
          replace q3 := q3.filled kz
          replace hV := kb _ _ _ hV (by omega)
          replace q4 := q4.filled kz
          replace q5 := q5.filled kz
          replace z6 := z6.filled kz
          replace hB := kB _ _ (by omega) hB
          replace hU := hU'
          clear hU' kz kb kB eu xf x0 x1
          refine hK.out _ _ ?_ (fun hHeld => ?_)
          · exact ⟨hV.cell 0, hV.cell 1, hV.cell 2, hA.cell 0, hA.cell 1, hA.cell 2, hM.cell 0, hM.cell 1, hM.cell 2⟩
          clear hK K
          refine tkH 11 rfl (v := ?v11) ?h11 ?r11
          case h11 => intro w hSw; (try dsimp only at hSw); go_simp; try (with_reducible rfl)
          try simp only [Act.put, lay1, lay2, lay3, lay4, lay5, lay6]
          try dsimp only
          try simp only [Act.put, lay1, lay2, lay3, lay4, lay5, lay6]
          refine wpAnyH_done (by kernel_rfl) ?_ _
          refine NoPanic.normal ?_
          go_wp2_with fail
          go_meet
          exact ⟨X9, s6, A6, L6, C6, rfl, hR, z6, hU, hB, lX9, (by assumption)⟩
      · obtain ⟨u4_9, eu, hU, b4_9⟩ := box1 u4_1 30 #[.bool false, .slice none 0 0]
        obtain ⟨X9, en⟩ : ∃ X, X = u4_1.heap.size := ⟨_, rfl⟩
        rw [← en] at hU
        have lX9 : w.heap.size ≤ X9 := by rw [en]; exact hB.size
        have dX9_hA : g ≠ X9 := by have := hA.lt; omega
        have dX9_hM : g + 1 ≠ X9 := by have := hM.lt; omega
        have dX9_hR : g + 1 + 1 ≠ X9 := by have := hR.lt; omega
        have dX9_hV : X4 ≠ X9 := by have := hV.lt; omega
        have EUX9 := Lib.hid (And.intro eu en)
        clear eu en
        go_simp
        rw [← EUX9.out.1, ← EUX9.out.2]
        replace q1 := q1.below b4_9
        replace q2 := q2.below b4_9
        replace hA := hA.below b4_9 hA.lt
        replace hM := hM.below b4_9 hM.lt
        replace hR := hR.below b4_9 hR.lt
        replace q3 := q3.below b4_9
        replace hV := hV.below b4_9 hV.lt
        replace q4 := q4.below b4_9
        replace hB := hB.trans (b4_9.mono hB.size)
        refine hK.out _ _ ?_ (fun hHeld => ?_)
        · exact ⟨hV.cell 0, hV.cell 1, hV.cell 2, hA.cell 0, hA.cell 1, hA.cell 2, hM.cell 0, hM.cell 1, hM.cell 2⟩
        clear hK K
        try simp only [Act.put, lay1, lay2, lay3, lay4, lay5, lay6]
        refine wpAnyH_ready (rs := [4]) (by kernel_rfl) (by simp) (AllReadyH.cons rfl (fun K hK => ?_) AllReadyH.nil)
        go_simp
        refine (hAd _ _ _ q4 q2).mono ?_
        rintro e u4_10 ⟨v5, rfl, q5, b4_10⟩
        replace q1 := q1.below b4_10
        replace q2 := q2.below b4_10
        replace hA := hA.below b4_10 hA.lt
        replace hM := hM.below b4_10 hM.lt
        replace hR := hR.below b4_10 hR.lt
        replace q3 := q3.below b4_10
        replace hV := hV.below b4_10 hV.lt
        replace q4 := q4.below b4_10
        replace hU := hU.below b4_10 hU.lt
        replace hB := hB.trans (b4_10.mono hB.size)
        obtain ⟨s5, A5, L5, C5, D5, M5, E5, rfl, q5⟩ := q5.opn
        go_wp2_with fail
        refine hK.out _ _ ?_ (fun hHeld => ?_)
        · exact ⟨hV.cell 0, hV.cell 1, hV.cell 2, hA.cell 0, hA.cell 1, hA.cell 2, hM.cell 0, hM.cell 1, hM.cell 2⟩
        clear hK K
        try simp only [Act.put, lay1, lay2, lay3, lay4, lay5, lay6]
        refine wpAnyH_ready (rs := [5]) (by kernel_rfl) (by simp) (AllReadyH.cons rfl (fun K hK => ?_) AllReadyH.nil)
        go_simp
        refine (hCe _ _ q5).mono ?_
        rintro e u4_11 ⟨v6, rfl, z6, b4_11⟩
        replace q1 := q1.below b4_11
        replace q2 := q2.below b4_11
        replace hA := hA.below b4_11 hA.lt
        replace hM := hM.below b4_11 hM.lt
        replace hR := hR.below b4_11 hR.lt
        replace q3 := q3.below b4_11
        replace hV := hV.below b4_11 hV.lt
        replace q4 := q4.below b4_11
        replace hU := hU.below b4_11 hU.lt
        replace q5 := q5.below b4_11
        replace hB := hB.trans (b4_11.mono hB.size)
        obtain ⟨s6, A6, L6, C6, rfl, z6⟩ := z6.opn
        go_wp2_with fail
        refine hK.out _ _ ?_ (fun hHeld => ?_)
        · exact ⟨hV.cell 0, hV.cell 1, hV.cell 2, hA.cell 0, hA.cell 1, hA.cell 2, hM.cell 0, hM.cell 1, hM.cell 2⟩
        clear hK K
        refine tkH 6 rfl (v := ?v12) ?h12 ?r12
        case h12 => intro w hSw; (try dsimp only at hSw); go_simp; try (with_reducible rfl)
        refine tkH 7 rfl (v := ?v13) ?h13 ?r13
        case h13 => intro w hSw; (try dsimp only at hSw); go_simp; try (with_reducible rfl)
        refine tkH 8 rfl (v := ?v14) ?h14 ?r14
        case h14 => intro w hSw; (try dsimp only at hSw); go_simp; try (with_reducible rfl)
        try simp only [Act.put, lay1, lay2, lay3, lay4, lay5, lay6]
        refine wpAnyH_ready (rs := [10]) (by kernel_rfl) (by simp) (AllReadyH.cons rfl (fun K hK => ?_) AllReadyH.nil)
        obtain ⟨u4_12, eu, hU', kz, kb, kB⟩ := fill2 hU (.bool s6) (.slice A6 L6 C6) (by simp [noU])
        have x0 : World.cell? _ ⟨X9, 0, none⟩ = some (.bool false) := hU.cell 0
        have x1 : World.cell? _ ⟨X9, 1, none⟩ = some (.slice none 0 0) := hU.cell 1
        have xf := hU.frozen
        go_simp
        rw [← eu]
        replace q1 := q1.filled kz
        replace q2 := q2.filled kz
        replace hA := kb _ _ _ hA (by omega)
        replace hM := kb _ _ _ hM (by omega)
        replace hR := kb _ _ _ hR (by omega)
        replace q3 := q3.filled kz
        replace hV := kb _ _ _ hV (by omega)
        replace q4 := q4.filled kz
        replace q5 := q5.filled kz
        replace z6 := z6.filled kz
        replace hB := kB _ _ (by omega) hB
        replace hU := hU'
        clear hU' kz kb kB eu xf x0 x1
        refine hK.out _ _ ?_ (fun hHeld => ?_)
        · exact ⟨hV.cell 0, hV.cell 1, hV.cell 2, hA.cell 0, hA.cell 1, hA.cell 2, hM.cell 0, hM.cell 1, hM.cell 2⟩
        clear hK K
        refine tkH 11 rfl (v := ?v15) ?h15 ?r15
        case h15 => intro w hSw; (try dsimp only at hSw); go_simp; try (with_reducible rfl)
        try simp only [Act.put, lay1, lay2, lay3, lay4, lay5, lay6]
        try dsimp only
        try simp only [Act.put, lay1, lay2, lay3, lay4, lay5, lay6]
        refine wpAnyH_done (by kernel_rfl) ?_ _
        refine NoPanic.normal ?_
        go_wp2_with fail
        go_meet
        exact ⟨X9, s6, A6, L6, C6, rfl, hR, z6, hU, hB, lX9, (by assumption)⟩
    · obtain ⟨u4_13, eu, hU, b4_13⟩ := box1 wd4_1 30 #[.bool false, .slice none 0 0]
      obtain ⟨X9, en⟩ : ∃ X, X = wd4_1.heap.size := ⟨_, rfl⟩
      rw [← en] at hU
      have lX9 : w.heap.size ≤ X9 := by rw [en]; exact hB.size
      have dX9_hA : g ≠ X9 := by have := hA.lt; omega
      have dX9_hM : g + 1 ≠ X9 := by have := hM.lt; omega
      have dX9_hR : g + 1 + 1 ≠ X9 := by have := hR.lt; omega
      have dX9_hV : X4 ≠ X9 := by have := hV.lt; omega
      have EUX9 := Lib.hid (And.intro eu en)
      clear eu en
      go_simp
      rw [← EUX9.out.1, ← EUX9.out.2]
      replace q1 := q1.below b4_13
      replace q2 := q2.below b4_13
      replace hA := hA.below b4_13 hA.lt
      replace hM := hM.below b4_13 hM.lt
      replace hR := hR.below b4_13 hR.lt
      replace q3 := q3.below b4_13
      replace hV := hV.below b4_13 hV.lt
      replace hB := hB.trans (b4_13.mono hB.size)
      refine hK.out _ _ ?_ (fun hHeld => ?_)
      · exact ⟨hV.cell 0, hV.cell 1, hV.cell 2, hA.cell 0, hA.cell 1, hA.cell 2, hM.cell 0, hM.cell 1, hM.cell 2⟩
      clear hK K
      try simp only [Act.put, lay1, lay2, lay3, lay4, lay5, lay6]
      refine wpAnyH_ready (rs := [2]) (by kernel_rfl) (by simp) (AllReadyH.cons rfl (fun K hK => ?_) AllReadyH.nil)
      go_simp
      refine (hMu _ _ _ q3 q1).mono ?_
      rintro e u4_14 ⟨v4, rfl, q4, b4_14⟩
      replace q1 := q1.below b4_14
      replace q2 := q2.below b4_14
      replace hA := hA.below b4_14 hA.lt
      replace hM := hM.below b4_14 hM.lt
      replace hR := hR.below b4_14 hR.lt
      replace q3 := q3.below b4_14
      replace hV := hV.below b4_14 hV.lt
      replace hU := hU.below b4_14 hU.lt
      replace hB := hB.trans (b4_14.mono hB.size)
      obtain ⟨s4, A4, L4, C4, D4, M4, E4, rfl, q4⟩ := q4.opn
      go_wp2_with fail
      refine hK.out _ _ ?_ (fun hHeld => ?_)
      · exact ⟨hV.cell 0, hV.cell 1, hV.cell 2, hA.cell 0, hA.cell 1, hA.cell 2, hM.cell 0, hM.cell 1, hM.cell 2⟩
      clear hK K
      try simp only [Act.put, lay1, lay2, lay3, lay4, lay5, lay6]
      refine wpAnyH_ready (rs := [4]) (by kernel_rfl) (by simp) (AllReadyH.cons rfl (fun K hK => ?_) AllReadyH.nil)
      go_simp
      refine (hAd _ _ _ q4 q2).mono ?_
      rintro e u4_15 ⟨v5, rfl, q5, b4_15⟩
      replace q1 := q1.below b4_15
      replace q2 := q2.below b4_15
      replace hA := hA.below b4_15 hA.lt
      replace hM := hM.below b4_15 hM.lt
      replace hR := hR.below b4_15 hR.lt
      replace q3 := q3.below b4_15
      replace hV := hV.below b4_15 hV.lt
      replace hU := hU.below b4_15 hU.lt
      replace q4 := q4.below b4_15
      replace hB := hB.trans (b4_15.mono hB.size)
      obtain ⟨s5, A5, L5, C5, D5, M5, E5, rfl, q5⟩ := q5.opn
      go_wp2_with fail
      refine hK.out _ _ ?_ (fun hHeld => ?_)
      · exact ⟨hV.cell 0, hV.cell 1, hV.cell 2, hA.cell 0, hA.cell 1, hA.cell 2, hM.cell 0, hM.cell 1, hM.cell 2⟩
      clear hK K
      try simp only [Act.put, lay1, lay2, lay3, lay4, lay5, lay6]
      refine wpAnyH_ready (rs := [5]) (by kernel_rfl) (by simp) (AllReadyH.cons rfl (fun K hK => ?_) AllReadyH.nil)
      go_simp
      refine (hCe _ _ q5).mono ?_
      rintro e u4_16 ⟨v6, rfl, z6, b4_16⟩
      replace q1 := q1.below b4_16
      replace q2 := q2.below b4_16
      replace hA := hA.below b4_16 hA.lt
      replace hM := hM.below b4_16 hM.lt
      replace hR := hR.below b4_16 hR.lt
      replace q3 := q3.below b4_16
      replace hV := hV.below b4_16 hV.lt
      replace hU := hU.below b4_16 hU.lt
      replace q4 := q4.below b4_16
      replace q5 := q5.below b4_16
      replace hB := hB.trans (b4_16.mono hB.size)
      obtain ⟨s6, A6, L6, C6, rfl, z6⟩ := z6.opn
      go_wp2_with fail
      refine hK.out _ _ ?_ (fun hHeld => ?_)
      · exact ⟨hV.cell 0, hV.cell 1, hV.cell 2, hA.cell 0, hA.cell 1, hA.cell 2, hM.cell 0, hM.cell 1, hM.cell 2⟩
      clear hK K
      refine tkH 6 rfl (v := ?v16) ?h16 ?r16
      case h16 => intro w hSw; (try dsimp only at hSw); go_simp; try (with_reducible rfl)
      refine tkH 7 rfl (v := ?v17) ?h17 ?r17
      case h17 => intro w hSw; (try dsimp only at hSw); go_simp; try (with_reducible rfl)
      refine tkH 8 rfl (v := ?v18) ?h18 ?r18
      case h18 => intro w hSw; (try dsimp only at hSw); go_simp; try (with_reducible rfl)
      try simp only [Act.put, lay1, lay2, lay3, lay4, lay5, lay6]
      refine wpAnyH_ready (rs := [10]) (by kernel_rfl) (by simp) (AllReadyH.cons rfl (fun K hK => ?_) AllReadyH.nil)
      obtain ⟨u4_17, eu, hU', kz, kb, kB⟩ := fill2 hU (.bool s6) (.slice A6 L6 C6) (by simp [noU])
      have x0 : World.cell? _ ⟨X9, 0, none⟩ = some (.bool false) := hU.cell 0
      have x1 : World.cell? _ ⟨X9, 1, none⟩ = some (.slice none 0 0) := hU.cell 1
      have xf := hU.frozen
      go_simp
      rw [← eu]
      replace q1 := q1.filled kz
      replace q2 := q2.filled kz
      replace hA := kb _ _ _ hA (by omega)
      replace hM := kb _ _ _ hM (by omega)
      replace hR := kb _ _ _ hR (by omega)
      replace q3 := q3.filled kz
      replace hV := kb _ _ _ hV (by omega)
      replace q4 := q4.filled kz
      replace q5 := q5.filled kz
      replace z6 := z6.filled kz
      replace hB := kB _ _ (by omega) hB
      replace hU := hU'
      clear hU' kz kb kB eu xf x0 x1
      refine hK.out _ _ ?_ (fun hHeld => ?_)
      · exact ⟨hV.cell 0, hV.cell 1, hV.cell 2, hA.cell 0, hA.cell 1, hA.cell 2, hM.cell 0, hM.cell 1, hM.cell 2⟩
      clear hK K
      refine tkH 11 rfl (v := ?v19) ?h19 ?r19
      case h19 => intro w hSw; (try dsimp only at hSw); go_simp; try (with_reducible rfl)
      try simp only [Act.put, lay1, lay2, lay3, lay4, lay5, lay6]
      try dsimp only
      try simp only [Act.put, lay1, lay2, lay3, lay4, lay5, lay6]
      refine wpAnyH_done (by kernel_rfl) ?_ _
      refine NoPanic.normal ?_
      go_wp2_with fail
      go_meet
      exact ⟨X9, s6, A6, L6, C6, rfl, hR, z6, hU, hB, lX9, (by assumption)⟩
  obtain ⟨X9, s6, A6, L6, C6, rfl, hR, z6, hU, hB, lX9, dX9_hR⟩ := hcut
  obtain ⟨c30, c31, c32⟩ := hR.q3
  obtain ⟨c33, c34⟩ := hU.q2
  go_wp2_with fail
  refine (hBk _ _ z6).mono ?_
  rintro e w7 ⟨v7, rfl, q7, b7⟩
  replace hR := hR.below b7 hR.lt
  replace z6 := z6.below b7
  replace hU := hU.below b7 hU.lt
  replace hB := hB.trans (b7.mono hB.size)
  clear c30 c31 c32 c33 c34
  obtain ⟨c35, c36, c37⟩ := hR.q3
  obtain ⟨c38, c39⟩ := hU.q2
  obtain ⟨s7, A7, L7, C7, D7, M7, E7, rfl, q7⟩ := q7.opn
  obtain ⟨p1, p2, p3⟩ := put3 hR (.bool s7) (.slice A7 L7 C7) (.slice D7 M7 E7) (by simp [noU]) hB (by omega)
  have rc0 : World.cell? _ ⟨g + 1 + 1, 0, none⟩ = some (.bool false) := hR.cell 0
  have rf0 := hR.frozen 0
  have rc1 : World.cell? _ ⟨g + 1 + 1, 1, none⟩ = some (.slice none 0 0) := hR.cell 1
  have rf1 := hR.frozen 1
  have rc2 : World.cell? _ ⟨g + 1 + 1, 2, none⟩ = some (.slice none 0 0) := hR.cell 2
  have rf2 := hR.frozen 2
  have P := Lib.hid (And.intro (q7.kept p2) (And.intro p3 p1.cells3))
  clear p1 p2 p3
  go_wp2_with fail
  obtain ⟨P1, P2, P3, P4, P5⟩ := P.out
  exact bodyPost_ret (v := .tuple #[.agg #[.bool s7, .slice A7 L7 C7, .slice D7 M7 E7], .int .i64 0]) (by simp [results, Tryz.results17, go_sem, P3, P4, P5]) rfl ⟨_, rfl, P1, P2⟩
end Go.Proofs.YtdnjdglekifhpaaGreat
