/- SIDES: with weights, velocities and gradients the other way round all that is new is, too, if there is none of the least of 64 bits. No conditions: every input. -/
import Derived.Test.YtbnnonmkkkhepaaSidesM
import Derived.Deep.RegionHeld3
import Derived.Deep.DrawnRows
import Derived.Deep.DeepCutAuto
namespace Go.Proofs.Ytbnnonmkkkhepaa
open Go.ChangeShapes Go.WideShapes Go.ChangeAt Go.RowKit
attribute [local go_sem ↓] Go.wp_at_zero Go.wp_at_succ

theorem cells44 {w : World} {X Z : Nat} {t t' : TypeId} {a b c d a' b' c' d' : Value} (h : Blk w X t #[a, b, c, d]) (k : Blk w Z t' #[a', b', c', d']) : w.cell? ⟨X, 0, none⟩ = some a ∧ w.cell? ⟨X, 1, none⟩ = some b ∧ w.cell? ⟨X, 2, none⟩ = some c ∧ w.cell? ⟨X, 3, none⟩ = some d ∧ w.cell? ⟨Z, 0, none⟩ = some a' ∧ w.cell? ⟨Z, 1, none⟩ = some b' ∧ w.cell? ⟨Z, 2, none⟩ = some c' ∧ w.cell? ⟨Z, 3, none⟩ = some d' :=
  ⟨h.cell 0, h.cell 1, h.cell 2, h.cell 3, k.cell 0, k.cell 1, k.cell 2, k.cell 3⟩
theorem IsI.frm3 {w : World} {v : Value} {l : List Int} (h : IsI w v l) : ∃ A C, v = .slice A l.length C := by obtain ⟨A, C, e, _⟩ := h; exact ⟨A, C, e⟩
theorem AllIn.ngs {l : List Int} (_ : AllIn l) : AllIn (ngs l) := AllIn.of_mem fun x hx => by
  unfold Go.Proofs.Ytbnnonmkkkhepaa.ngs at hx
  obtain ⟨y, _, rfl⟩ := List.mem_map.1 hx
  unfold ng In64; rw [IntKind.wrap_i64]; omega
theorem stWs_len (lr mu wd : Int) (nest : Bool) (f : Int) (W M G : List Int) : (stWs lr mu wd nest f W M G).length ≤ W.length := by unfold stWs; split <;> simp
theorem stMs_len (lr mu wd : Int) (nest : Bool) (f : Int) (W M G : List Int) : (stMs lr mu wd nest f W M G).length ≤ W.length := by unfold stMs; split <;> simp
set_option maxRecDepth 100000 in
set_option maxHeartbeats 16000000 in
theorem MomSides_all (lr mu wd f : Int) (nest : Bool) (v : Value) (A B C D : List Int) (w : World) (h : IsR w v A B C D) (hlr : In64 lr) (hmu : In64 mu) (hwd : In64 wd) (iA : AllIn A) (iB : AllIn B) (iD : AllIn D)
    (k1 : A.length ≤ 17592186044416) (k2 : B.length ≤ 17592186044416) (k3 : C.length ≤ 17592186044416) (k4 : D.length ≤ 17592186044416) :
    Calls Try.prog 7 #[.agg #[.int .i64 lr, .int .i64 mu, .int .i64 wd, .bool nest], v, .int .i64 f] w fun e w' => e = .returned (.bool true) ∧ Below w.heap.size w w' := by
  have hF := fun w h => few17_any v A B C D 36 w h k1 k2 k3 k4 (by omega)
  have hL := fun w => alive17_any w
  have hv := h
  obtain ⟨a, b, c, d, rfl, ha, hb, hc, hd⟩ := h
  obtain ⟨Aa, Ca, rfl⟩ := ha.frm3
  obtain ⟨Ab, Cb, rfl⟩ := hb.frm3
  obtain ⟨Ac, Cc, rfl⟩ := hc.frm3
  obtain ⟨Ad, Cd, rfl⟩ := hd.frm3
  clear ha hb hc hd
  have hdf : decide (A.length + B.length + C.length + D.length ≤ 36) = decide (A.length + B.length + C.length + D.length ≤ ((36 : Nat))) := rfl
  by_cases hfew : A.length + B.length + C.length + D.length ≤ 36
  · rw [decide_eq_true hfew] at hF
    have hS := fun w h => Step_all lr mu wd f nest _ A B C D w (hv.below h) (by omega) hlr hmu hwd iA iB iD
    have hT := fun w h => turned_any _ A B C D w (hv.below h) (by omega) (by omega) (by omega)
    have hS2 := fun v w h => Step_all lr mu wd f nest v (ngs A) (ngs B) [] (ngs D) w h (by rw [ngs_len]; omega) hlr hmu hwd iA.ngs iB.ngs iD.ngs
    have l1 := stWs_len lr mu wd nest f A B D
    have l2 := stMs_len lr mu wd nest f A B D
    have l3 := stWs_len lr mu wd nest f (ngs A) (ngs B) (ngs D)
    have l4 := stMs_len lr mu wd nest f (ngs A) (ngs B) (ngs D)
    rw [ngs_len] at l3 l4
    have hok := sides_ok (lr := lr) (mu := mu) (wd := wd) (nest := nest) (f := f) iA iB iD
    have her := sides_err lr mu wd nest f A B D _ _ rfl rfl
    generalize stWs lr mu wd nest f A B D = xs1 at *
    generalize stMs lr mu wd nest f A B D = ys1 at *
    generalize stWs lr mu wd nest f (ngs A) (ngs B) (ngs D) = xs2 at *
    generalize stMs lr mu wd nest f (ngs A) (ngs B) (ngs D) = ys2 at *
    generalize stErr lr mu wd nest f A B D = e1 at *
    generalize stErr lr mu wd nest f (ngs A) (ngs B) (ngs D) = e2 at *
    have hH1 := fun w h => has_any _ A B C D w (hv.below h) (by omega) (by omega) (by omega)
    have hH2 := fun u w h => has_any u xs1 ys1 [] [] w h (by omega) (by omega) (by simp)
    have hH3 := fun u w h => has_any u xs2 ys2 [] [] w h (by omega) (by omega) (by simp)
    have hT2 := fun u w h => turned_any u xs1 ys1 [] [] w h (by omega) (by omega) (by simp)
    have hM := fun u u' w h h' => same17_any u u' (ngs xs1) (ngs ys1) [] (ngs []) xs2 ys2 [] [] w h h'
    have HOK := Lib.hid (And.intro hok her)
    have LEN := Lib.hid (And.intro l1 (And.intro l2 (And.intro l3 l4)))
    clear hok her l1 l2 l3 l4 hlr hmu hwd iA iB iD
    generalize hasL (A ++ B ++ D) = m1 at *
    generalize hasL (xs1 ++ ys1 ++ []) = m2 at *
    generalize hasL (xs2 ++ ys2 ++ []) = m3 at *
    have HV := Lib.hid hv
    clear k1 k2 k3 k4 hdf hfew
    obtain ⟨W0, hW, hT, hB⟩ := box2 w 23 26 #[.int .i64 lr, .int .i64 mu, .int .i64 wd, .bool nest] #[.slice Aa A.length Ca, .slice Ab B.length Cb, .slice Ac C.length Cc, .slice Ad D.length Cd]
    obtain ⟨g, hg⟩ : ∃ g, g = w.heap.size := ⟨_, rfl⟩
    have hW' := Lib.hid (And.intro hW hg)
    rw [← hg] at hT
    have hgw : w.heap.size ≤ g := by omega
    clear hW hg
    obtain ⟨hMo, hRo⟩ := hT
    replace hv := hv.below hB
    obtain ⟨c1_hMo_0, c1_hMo_1, c1_hMo_2, c1_hMo_3⟩ := hMo.cells4
    obtain ⟨c1_hRo_0, c1_hRo_1, c1_hRo_2, c1_hRo_3⟩ := hRo.cells4
    go_enter Try.func7, Try.ntmps7
    go_wp2_with fail
    rw [← hW'.out.1, ← hW'.out.2]
    refine (hF _ hv).mono ?_
    rintro e w1 ⟨rfl, b1⟩
    replace hv := hv.below b1
    replace hMo := hMo.below b1 hMo.lt
    replace hRo := hRo.below b1 hRo.lt
    replace hB := hB.trans (b1.mono hB.size)
    clear c1_hMo_0 c1_hMo_1 c1_hMo_2 c1_hMo_3 c1_hRo_0 c1_hRo_1 c1_hRo_2 c1_hRo_3
    obtain ⟨c2_hMo_0, c2_hMo_1, c2_hMo_2, c2_hMo_3⟩ := hMo.cells4
    obtain ⟨c2_hRo_0, c2_hRo_1, c2_hRo_2, c2_hRo_3⟩ := hRo.cells4
    go_wp2_with fail
    refine (hS _ hB).mono ?_
    rintro e w2 ⟨v2, rfl, ⟨x1, x2, x3, x4, rfl, i1, i2, i3, i4⟩, b2⟩
    replace hv := hv.below b2
    replace hMo := hMo.below b2 hMo.lt
    replace hRo := hRo.below b2 hRo.lt
    replace hB := hB.trans (b2.mono hB.size)
    clear c2_hMo_0 c2_hMo_1 c2_hMo_2 c2_hMo_3 c2_hRo_0 c2_hRo_1 c2_hRo_2 c2_hRo_3
    obtain ⟨c3_hMo_0, c3_hMo_1, c3_hMo_2, c3_hMo_3⟩ := hMo.cells4
    obtain ⟨c3_hRo_0, c3_hRo_1, c3_hRo_2, c3_hRo_3⟩ := hRo.cells4
    obtain ⟨Ax1, Cx1, rfl⟩ := i1.frm3
    obtain ⟨Ax2, Cx2, rfl⟩ := i2.frm3
    obtain ⟨Ax3, Cx3, rfl⟩ := i3.frm3
    obtain ⟨Ax4, Cx4, rfl⟩ := i4.frm3
    obtain ⟨V1, eV, hX, bV1⟩ := box1 w2 26 #[.slice Ax1 xs1.length Cx1, .slice Ax2 ys1.length Cx2, .slice Ax3 0 Cx3, .slice Ax4 0 Cx4]
    obtain ⟨X1, eX⟩ : ∃ X, X = w2.heap.size := ⟨_, rfl⟩
    rw [← eX] at hX
    have EV1 := Lib.hid (And.intro eV eX)
    clear eV eX
    go_upto_region 4 with fail
    rw [← EV1.out.1, ← EV1.out.2]
    replace hv := hv.below bV1
    replace hMo := hMo.below bV1 hMo.lt
    replace hRo := hRo.below bV1 hRo.lt
    replace i1 := i1.below bV1
    replace i2 := i2.below bV1
    replace i3 := i3.below bV1
    replace i4 := i4.below bV1
    replace hB := hB.trans (bV1.mono hB.size)
    clear c3_hMo_0 c3_hMo_1 c3_hMo_2 c3_hMo_3 c3_hRo_0 c3_hRo_1 c3_hRo_2 c3_hRo_3
    obtain ⟨c4_hMo_0, c4_hMo_1, c4_hMo_2, c4_hMo_3⟩ := hMo.cells4
    obtain ⟨c4_hRo_0, c4_hRo_1, c4_hRo_2, c4_hRo_3⟩ := hRo.cells4
    clear c4_hMo_0 c4_hMo_1 c4_hMo_2 c4_hMo_3 c4_hRo_0 c4_hRo_1 c4_hRo_2 c4_hRo_3
    obtain ⟨c5_hMo_0, c5_hMo_1, c5_hMo_2, c5_hMo_3⟩ := hMo.cells4
    obtain ⟨c5_hRo_0, c5_hRo_1, c5_hRo_2, c5_hRo_3⟩ := hRo.cells4
    obtain ⟨c5_hX_0, c5_hX_1, c5_hX_2, c5_hX_3⟩ := hX.cells4
    have hTw : Two V1 g 23 _ 26 _ := ⟨hMo, hRo⟩
    go_cut [9, 10] (fun s t wx => ∃ (Z : Nat) (E1 E2 E3 E4 : Option Addr) (F1 F2 F3 F4 : Nat), s = .pointer (some ⟨Z, 0, none⟩) ∧ t = .int .i64 e2 ∧ Blk wx Z 26 #[.slice E1 xs2.length F1, .slice E2 ys2.length F2, .slice E3 0 F3, .slice E4 0 F4] ∧ IsI wx (.slice E1 xs2.length F1) xs2 ∧ IsI wx (.slice E2 ys2.length F2) ys2 ∧ IsI wx (.slice E3 0 F3) [] ∧ IsI wx (.slice E4 0 F4) [] ∧ Below V1.heap.size V1 wx)
    case first =>
      go_region_held3 (fun w' => w'.cell? ⟨g, 0, none⟩ = some (.int .i64 lr) ∧ w'.cell? ⟨g, 1, none⟩ = some (.int .i64 mu) ∧ w'.cell? ⟨g, 2, none⟩ = some (.int .i64 wd) ∧ w'.cell? ⟨g, 3, none⟩ = some (.bool nest) ∧ w'.cell? ⟨g + 1, 0, none⟩ = some (.slice Aa A.length Ca) ∧ w'.cell? ⟨g + 1, 1, none⟩ = some (.slice Ab B.length Cb) ∧ w'.cell? ⟨g + 1, 2, none⟩ = some (.slice Ac C.length Cc) ∧ w'.cell? ⟨g + 1, 3, none⟩ = some (.slice Ad D.length Cd))
        (first | exact Two.cells44 (hTw.below (by first | assumption | exact balloc (by assumption) _ | exact bdrew _ | exact balloc (bdrew _) _ | exact (balloc (Below.refl _ _) _).drew) hTw.lt) | exact Two.cells44 (hTw.below (bset (bset (bset (bset (by assumption) (by assumption) _) (by assumption) _) (by assumption) _) (by assumption) _) hTw.lt))
        (first
          | (go_at_call 22; (with_reducible refine (hT _ ?_).mono ?_); exact hB.trans ((show Below V1.heap.size V1 _ from (by first | assumption | exact balloc (by assumption) _ | exact bdrew _ | exact balloc (bdrew _) _ | exact (balloc (Below.refl _ _) _).drew)).mono hB.size); rintro x w3 ⟨t3, rfl, h3, b3⟩; (first | ((first | have hXX := newX b3 V1 (by first | assumption | exact bdrew _) | have hXX := newX (undrew b3) V1 (by first | exact Below.refl _ _ | assumption)); obtain ⟨hZ, sZ⟩ := hXX; try simp only [World.size_drew] at hZ sZ) | (have hZ := hZ.below b3 hZ.lt) | skip); have B3 := bstep (a := V1) (by first | assumption | exact balloc (by assumption) _ | exact bdrew _ | exact balloc (bdrew _) _ | exact (balloc (Below.refl _ _) _).drew) b3)
          | (go_at_call 10; (with_reducible refine (hS2 _ _ ?_).mono ?_); exact h3.below (by first | exact Below.refl _ _ | exact balloc (Below.refl _ _) _ | exact bdrew _ | exact (balloc (Below.refl _ _) _).drew); rintro x w4 ⟨t4, rfl, ⟨y1, y2, y3, y4, rfl, j1, j2, j3, j4⟩, b4⟩; (first | ((first | have hXX := newX b4 V1 (by first | assumption | exact bdrew _) | have hXX := newX (undrew b4) V1 (by first | exact Below.refl _ _ | assumption)); obtain ⟨hZ, sZ⟩ := hXX; try simp only [World.size_drew] at hZ sZ) | (have hZ := hZ.below b4 hZ.lt) | skip); have B4 := bstep (a := V1) (by first | assumption | exact balloc (by assumption) _ | exact bdrew _ | exact balloc (bdrew _) _ | exact (balloc (Below.refl _ _) _).drew) b4; obtain ⟨E1, F1, rfl⟩ := j1.frm3; obtain ⟨E2, F2, rfl⟩ := j2.frm3; obtain ⟨E3, F3, rfl⟩ := j3.frm3; obtain ⟨E4, F4, rfl⟩ := j4.frm3; (try (obtain ⟨z0, z1, z2, z3⟩ := hZ.cells4; have y0 := hZ.frozen 0; have y1 := hZ.frozen 1; have y2 := hZ.frozen 2; have y3 := hZ.frozen 3))))
      all_goals (go_wp2_with fail; go_meet)
      all_goals
        first
          | exact ⟨_, _, _, _, _, _, _, _, _, rfl, rfl, Blk.new _ _ _, j1.below (balloc (Below.refl _ _) _), j2.below (balloc (Below.refl _ _) _), j3.below (balloc (Below.refl _ _) _), j4.below (balloc (Below.refl _ _) _), balloc B4 _⟩
          | (obtain ⟨p1, p2, p3⟩ := put4 hZ (.slice E1 xs2.length F1) (.slice E2 ys2.length F2) (.slice E3 0 F3) (.slice E4 0 F4) (by simp [noI]) B4 (by first | assumption | exact Nat.le_refl _)
             exact ⟨_, _, _, _, _, _, _, _, _, rfl, rfl, p1, p2 _ _ j1, p2 _ _ j2, p2 _ _ j3, p2 _ _ j4, p3⟩)
    obtain ⟨Z, E1, E2, E3, E4, F1, F2, F3, F4, rfl, rfl, hZ, j1, j2, j3, j4, bz⟩ := hcut
    clear hTw
    replace hv := hv.below bz
    replace hMo := hMo.below bz hMo.lt
    replace hRo := hRo.below bz hRo.lt
    replace i1 := i1.below bz
    replace i2 := i2.below bz
    replace i3 := i3.below bz
    replace i4 := i4.below bz
    replace hX := hX.below bz hX.lt
    replace hB := hB.trans (bz.mono hB.size)
    clear c5_hMo_0 c5_hMo_1 c5_hMo_2 c5_hMo_3 c5_hRo_0 c5_hRo_1 c5_hRo_2 c5_hRo_3 c5_hX_0 c5_hX_1 c5_hX_2 c5_hX_3
    obtain ⟨c6_hMo_0, c6_hMo_1, c6_hMo_2, c6_hMo_3⟩ := hMo.cells4
    obtain ⟨c6_hRo_0, c6_hRo_1, c6_hRo_2, c6_hRo_3⟩ := hRo.cells4
    obtain ⟨c6_hX_0, c6_hX_1, c6_hX_2, c6_hX_3⟩ := hX.cells4
    clear c6_hMo_0 c6_hMo_1 c6_hMo_2 c6_hMo_3 c6_hRo_0 c6_hRo_1 c6_hRo_2 c6_hRo_3 c6_hX_0 c6_hX_1 c6_hX_2 c6_hX_3
    obtain ⟨c7_hMo_0, c7_hMo_1, c7_hMo_2, c7_hMo_3⟩ := hMo.cells4
    obtain ⟨c7_hRo_0, c7_hRo_1, c7_hRo_2, c7_hRo_3⟩ := hRo.cells4
    obtain ⟨c7_hX_0, c7_hX_1, c7_hX_2, c7_hX_3⟩ := hX.cells4
    obtain ⟨c7_hZ_0, c7_hZ_1, c7_hZ_2, c7_hZ_3⟩ := hZ.cells4
    rcases m1 with _ | _
    · go_wp2_with fail
      refine (hH1 _ hB).mono ?_
      rintro e w3 ⟨rfl, b3⟩
      replace hv := hv.below b3
      replace hMo := hMo.below b3 hMo.lt
      replace hRo := hRo.below b3 hRo.lt
      replace i1 := i1.below b3
      replace i2 := i2.below b3
      replace i3 := i3.below b3
      replace i4 := i4.below b3
      replace hX := hX.below b3 hX.lt
      replace hZ := hZ.below b3 hZ.lt
      replace j1 := j1.below b3
      replace j2 := j2.below b3
      replace j3 := j3.below b3
      replace j4 := j4.below b3
      replace hB := hB.trans (b3.mono hB.size)
      clear c7_hMo_0 c7_hMo_1 c7_hMo_2 c7_hMo_3 c7_hRo_0 c7_hRo_1 c7_hRo_2 c7_hRo_3 c7_hX_0 c7_hX_1 c7_hX_2 c7_hX_3 c7_hZ_0 c7_hZ_1 c7_hZ_2 c7_hZ_3
      obtain ⟨c8_hMo_0, c8_hMo_1, c8_hMo_2, c8_hMo_3⟩ := hMo.cells4
      obtain ⟨c8_hRo_0, c8_hRo_1, c8_hRo_2, c8_hRo_3⟩ := hRo.cells4
      obtain ⟨c8_hX_0, c8_hX_1, c8_hX_2, c8_hX_3⟩ := hX.cells4
      obtain ⟨c8_hZ_0, c8_hZ_1, c8_hZ_2, c8_hZ_3⟩ := hZ.cells4
      go_wp2_with fail
      refine (hH2 _ _ ⟨_, _, _, _, rfl, i1, i2, i3, i4⟩).mono ?_
      rintro e w4 ⟨rfl, b4⟩
      replace hv := hv.below b4
      replace hMo := hMo.below b4 hMo.lt
      replace hRo := hRo.below b4 hRo.lt
      replace i1 := i1.below b4
      replace i2 := i2.below b4
      replace i3 := i3.below b4
      replace i4 := i4.below b4
      replace hX := hX.below b4 hX.lt
      replace hZ := hZ.below b4 hZ.lt
      replace j1 := j1.below b4
      replace j2 := j2.below b4
      replace j3 := j3.below b4
      replace j4 := j4.below b4
      replace hB := hB.trans (b4.mono hB.size)
      clear c8_hMo_0 c8_hMo_1 c8_hMo_2 c8_hMo_3 c8_hRo_0 c8_hRo_1 c8_hRo_2 c8_hRo_3 c8_hX_0 c8_hX_1 c8_hX_2 c8_hX_3 c8_hZ_0 c8_hZ_1 c8_hZ_2 c8_hZ_3
      obtain ⟨c9_hMo_0, c9_hMo_1, c9_hMo_2, c9_hMo_3⟩ := hMo.cells4
      obtain ⟨c9_hRo_0, c9_hRo_1, c9_hRo_2, c9_hRo_3⟩ := hRo.cells4
      obtain ⟨c9_hX_0, c9_hX_1, c9_hX_2, c9_hX_3⟩ := hX.cells4
      obtain ⟨c9_hZ_0, c9_hZ_1, c9_hZ_2, c9_hZ_3⟩ := hZ.cells4
      rcases m2 with _ | _
      · go_wp2_with fail
        refine (hH3 _ _ ⟨_, _, _, _, rfl, j1, j2, j3, j4⟩).mono ?_
        rintro e w5 ⟨rfl, b5⟩
        replace hv := hv.below b5
        replace hMo := hMo.below b5 hMo.lt
        replace hRo := hRo.below b5 hRo.lt
        replace i1 := i1.below b5
        replace i2 := i2.below b5
        replace i3 := i3.below b5
        replace i4 := i4.below b5
        replace hX := hX.below b5 hX.lt
        replace hZ := hZ.below b5 hZ.lt
        replace j1 := j1.below b5
        replace j2 := j2.below b5
        replace j3 := j3.below b5
        replace j4 := j4.below b5
        replace hB := hB.trans (b5.mono hB.size)
        clear c9_hMo_0 c9_hMo_1 c9_hMo_2 c9_hMo_3 c9_hRo_0 c9_hRo_1 c9_hRo_2 c9_hRo_3 c9_hX_0 c9_hX_1 c9_hX_2 c9_hX_3 c9_hZ_0 c9_hZ_1 c9_hZ_2 c9_hZ_3
        obtain ⟨c10_hMo_0, c10_hMo_1, c10_hMo_2, c10_hMo_3⟩ := hMo.cells4
        obtain ⟨c10_hRo_0, c10_hRo_1, c10_hRo_2, c10_hRo_3⟩ := hRo.cells4
        obtain ⟨c10_hX_0, c10_hX_1, c10_hX_2, c10_hX_3⟩ := hX.cells4
        obtain ⟨c10_hZ_0, c10_hZ_1, c10_hZ_2, c10_hZ_3⟩ := hZ.cells4
        rcases m3 with _ | _
        · rcases HOK.out.2 with ⟨rfl, rfl⟩ | ⟨rfl, rfl⟩ | ⟨rfl, rfl⟩ | ⟨rfl, rfl⟩ | ⟨rfl, rfl⟩ | ⟨rfl, rfl⟩
          · go_wp2_with fail
            refine (hL _).mono ?_
            rintro e w6 ⟨rfl, b6⟩
            replace hv := hv.below b6
            replace hMo := hMo.below b6 hMo.lt
            replace hRo := hRo.below b6 hRo.lt
            replace i1 := i1.below b6
            replace i2 := i2.below b6
            replace i3 := i3.below b6
            replace i4 := i4.below b6
            replace hX := hX.below b6 hX.lt
            replace hZ := hZ.below b6 hZ.lt
            replace j1 := j1.below b6
            replace j2 := j2.below b6
            replace j3 := j3.below b6
            replace j4 := j4.below b6
            replace hB := hB.trans (b6.mono hB.size)
            clear c10_hMo_0 c10_hMo_1 c10_hMo_2 c10_hMo_3 c10_hRo_0 c10_hRo_1 c10_hRo_2 c10_hRo_3 c10_hX_0 c10_hX_1 c10_hX_2 c10_hX_3 c10_hZ_0 c10_hZ_1 c10_hZ_2 c10_hZ_3
            obtain ⟨c11_hMo_0, c11_hMo_1, c11_hMo_2, c11_hMo_3⟩ := hMo.cells4
            obtain ⟨c11_hRo_0, c11_hRo_1, c11_hRo_2, c11_hRo_3⟩ := hRo.cells4
            obtain ⟨c11_hX_0, c11_hX_1, c11_hX_2, c11_hX_3⟩ := hX.cells4
            obtain ⟨c11_hZ_0, c11_hZ_1, c11_hZ_2, c11_hZ_3⟩ := hZ.cells4
            go_wp2
            go_ret
            exact ⟨rfl, hB⟩
          · go_wp2_with fail
            refine (hL _).mono ?_
            rintro e w6 ⟨rfl, b6⟩
            replace hv := hv.below b6
            replace hMo := hMo.below b6 hMo.lt
            replace hRo := hRo.below b6 hRo.lt
            replace i1 := i1.below b6
            replace i2 := i2.below b6
            replace i3 := i3.below b6
            replace i4 := i4.below b6
            replace hX := hX.below b6 hX.lt
            replace hZ := hZ.below b6 hZ.lt
            replace j1 := j1.below b6
            replace j2 := j2.below b6
            replace j3 := j3.below b6
            replace j4 := j4.below b6
            replace hB := hB.trans (b6.mono hB.size)
            clear c10_hMo_0 c10_hMo_1 c10_hMo_2 c10_hMo_3 c10_hRo_0 c10_hRo_1 c10_hRo_2 c10_hRo_3 c10_hX_0 c10_hX_1 c10_hX_2 c10_hX_3 c10_hZ_0 c10_hZ_1 c10_hZ_2 c10_hZ_3
            obtain ⟨c11_hMo_0, c11_hMo_1, c11_hMo_2, c11_hMo_3⟩ := hMo.cells4
            obtain ⟨c11_hRo_0, c11_hRo_1, c11_hRo_2, c11_hRo_3⟩ := hRo.cells4
            obtain ⟨c11_hX_0, c11_hX_1, c11_hX_2, c11_hX_3⟩ := hX.cells4
            obtain ⟨c11_hZ_0, c11_hZ_1, c11_hZ_2, c11_hZ_3⟩ := hZ.cells4
            go_wp2
            go_ret
            exact ⟨rfl, hB⟩
          · go_wp2_with fail
            refine (hL _).mono ?_
            rintro e w6 ⟨rfl, b6⟩
            replace hv := hv.below b6
            replace hMo := hMo.below b6 hMo.lt
            replace hRo := hRo.below b6 hRo.lt
            replace i1 := i1.below b6
            replace i2 := i2.below b6
            replace i3 := i3.below b6
            replace i4 := i4.below b6
            replace hX := hX.below b6 hX.lt
            replace hZ := hZ.below b6 hZ.lt
            replace j1 := j1.below b6
            replace j2 := j2.below b6
            replace j3 := j3.below b6
            replace j4 := j4.below b6
            replace hB := hB.trans (b6.mono hB.size)
            clear c10_hMo_0 c10_hMo_1 c10_hMo_2 c10_hMo_3 c10_hRo_0 c10_hRo_1 c10_hRo_2 c10_hRo_3 c10_hX_0 c10_hX_1 c10_hX_2 c10_hX_3 c10_hZ_0 c10_hZ_1 c10_hZ_2 c10_hZ_3
            obtain ⟨c11_hMo_0, c11_hMo_1, c11_hMo_2, c11_hMo_3⟩ := hMo.cells4
            obtain ⟨c11_hRo_0, c11_hRo_1, c11_hRo_2, c11_hRo_3⟩ := hRo.cells4
            obtain ⟨c11_hX_0, c11_hX_1, c11_hX_2, c11_hX_3⟩ := hX.cells4
            obtain ⟨c11_hZ_0, c11_hZ_1, c11_hZ_2, c11_hZ_3⟩ := hZ.cells4
            go_wp2
            go_ret
            exact ⟨rfl, hB⟩
          · go_wp2_with fail
            refine (hL _).mono ?_
            rintro e w6 ⟨rfl, b6⟩
            replace hv := hv.below b6
            replace hMo := hMo.below b6 hMo.lt
            replace hRo := hRo.below b6 hRo.lt
            replace i1 := i1.below b6
            replace i2 := i2.below b6
            replace i3 := i3.below b6
            replace i4 := i4.below b6
            replace hX := hX.below b6 hX.lt
            replace hZ := hZ.below b6 hZ.lt
            replace j1 := j1.below b6
            replace j2 := j2.below b6
            replace j3 := j3.below b6
            replace j4 := j4.below b6
            replace hB := hB.trans (b6.mono hB.size)
            clear c10_hMo_0 c10_hMo_1 c10_hMo_2 c10_hMo_3 c10_hRo_0 c10_hRo_1 c10_hRo_2 c10_hRo_3 c10_hX_0 c10_hX_1 c10_hX_2 c10_hX_3 c10_hZ_0 c10_hZ_1 c10_hZ_2 c10_hZ_3
            obtain ⟨c11_hMo_0, c11_hMo_1, c11_hMo_2, c11_hMo_3⟩ := hMo.cells4
            obtain ⟨c11_hRo_0, c11_hRo_1, c11_hRo_2, c11_hRo_3⟩ := hRo.cells4
            obtain ⟨c11_hX_0, c11_hX_1, c11_hX_2, c11_hX_3⟩ := hX.cells4
            obtain ⟨c11_hZ_0, c11_hZ_1, c11_hZ_2, c11_hZ_3⟩ := hZ.cells4
            go_wp2
            go_ret
            exact ⟨rfl, hB⟩
          · go_wp2_with fail
            refine (hL _).mono ?_
            rintro e w6 ⟨rfl, b6⟩
            replace hv := hv.below b6
            replace hMo := hMo.below b6 hMo.lt
            replace hRo := hRo.below b6 hRo.lt
            replace i1 := i1.below b6
            replace i2 := i2.below b6
            replace i3 := i3.below b6
            replace i4 := i4.below b6
            replace hX := hX.below b6 hX.lt
            replace hZ := hZ.below b6 hZ.lt
            replace j1 := j1.below b6
            replace j2 := j2.below b6
            replace j3 := j3.below b6
            replace j4 := j4.below b6
            replace hB := hB.trans (b6.mono hB.size)
            clear c10_hMo_0 c10_hMo_1 c10_hMo_2 c10_hMo_3 c10_hRo_0 c10_hRo_1 c10_hRo_2 c10_hRo_3 c10_hX_0 c10_hX_1 c10_hX_2 c10_hX_3 c10_hZ_0 c10_hZ_1 c10_hZ_2 c10_hZ_3
            obtain ⟨c11_hMo_0, c11_hMo_1, c11_hMo_2, c11_hMo_3⟩ := hMo.cells4
            obtain ⟨c11_hRo_0, c11_hRo_1, c11_hRo_2, c11_hRo_3⟩ := hRo.cells4
            obtain ⟨c11_hX_0, c11_hX_1, c11_hX_2, c11_hX_3⟩ := hX.cells4
            obtain ⟨c11_hZ_0, c11_hZ_1, c11_hZ_2, c11_hZ_3⟩ := hZ.cells4
            go_wp2
            go_ret
            exact ⟨rfl, hB⟩
          · obtain ⟨hxx, hyy⟩ := HOK.out.1 (by first | trivial | rfl) (by first | trivial | rfl) (by first | trivial | rfl) (by first | trivial | rfl)
            subst hxx hyy
            have hM1 := fun u u' w h h' => (hM u u' w h h').mono (fun e w' k => (⟨k.1.trans (by simp [ngs]), k.2⟩ : e = .returned (.bool true) ∧ Below w.heap.size w w'))
            go_upto_region 8 with fail
            go_region_held3 (fun w' => w'.cell? ⟨X1, 0, none⟩ = some (.slice Ax1 xs1.length Cx1) ∧ w'.cell? ⟨X1, 1, none⟩ = some (.slice Ax2 ys1.length Cx2) ∧ w'.cell? ⟨X1, 2, none⟩ = some (.slice Ax3 0 Cx3) ∧ w'.cell? ⟨X1, 3, none⟩ = some (.slice Ax4 0 Cx4) ∧ w'.cell? ⟨Z, 0, none⟩ = some (.slice E1 (ngs xs1).length F1) ∧ w'.cell? ⟨Z, 1, none⟩ = some (.slice E2 (ngs ys1).length F2) ∧ w'.cell? ⟨Z, 2, none⟩ = some (.slice E3 0 F3) ∧ w'.cell? ⟨Z, 3, none⟩ = some (.slice E4 0 F4))
              (exact cells44 (hX.below (show Below w5.heap.size w5 _ from (by first | assumption | exact bdrew _ | exact Below.refl _ _)) hX.lt) (hZ.below (show Below w5.heap.size w5 _ from (by first | assumption | exact bdrew _ | exact Below.refl _ _)) hZ.lt))
              (first
                | (go_at_call 9; (with_reducible refine (hL _).mono ?_); rintro x y1 ⟨rfl, d1⟩; have D1 := bstep (a := w5) (by first | assumption | exact bdrew _ | exact Below.refl _ _) d1)
                | (go_at_call 22; (with_reducible refine (hT2 _ _ ?_).mono ?_); exact ⟨_, _, _, _, rfl, i1.below (by first | assumption | exact bdrew _ | exact Below.refl _ _), i2.below (by first | assumption | exact bdrew _ | exact Below.refl _ _), i3.below (by first | assumption | exact bdrew _ | exact Below.refl _ _), i4.below (by first | assumption | exact bdrew _ | exact Below.refl _ _)⟩; rintro x y2 ⟨t2, rfl, h2, d2⟩; have D2 := bstep (a := w5) (by first | assumption | exact bdrew _ | exact Below.refl _ _) d2)
                | (go_at_call 14; (with_reducible refine (hM1 _ _ _ ?_ ?_).mono ?_); exact h2.below (by first | exact Below.refl _ _ | exact bdrew _); exact ⟨_, _, _, _, rfl, j1.below (by first | assumption | exact bdrew _ | exact Below.refl _ _), j2.below (by first | assumption | exact bdrew _ | exact Below.refl _ _), j3.below (by first | assumption | exact bdrew _ | exact Below.refl _ _), j4.below (by first | assumption | exact bdrew _ | exact Below.refl _ _)⟩; rintro x y3 ⟨rfl, d3⟩; have D3 := bstep (a := w5) (by first | assumption | exact bdrew _ | exact Below.refl _ _) d3))
            all_goals
              go_wp2
              go_ret
              exact ⟨rfl, hB.trans (D3.mono hB.size)⟩
        · go_wp2_with fail
          refine (hL _).mono ?_
          rintro e w6 ⟨rfl, b6⟩
          replace hv := hv.below b6
          replace hMo := hMo.below b6 hMo.lt
          replace hRo := hRo.below b6 hRo.lt
          replace i1 := i1.below b6
          replace i2 := i2.below b6
          replace i3 := i3.below b6
          replace i4 := i4.below b6
          replace hX := hX.below b6 hX.lt
          replace hZ := hZ.below b6 hZ.lt
          replace j1 := j1.below b6
          replace j2 := j2.below b6
          replace j3 := j3.below b6
          replace j4 := j4.below b6
          replace hB := hB.trans (b6.mono hB.size)
          clear c10_hMo_0 c10_hMo_1 c10_hMo_2 c10_hMo_3 c10_hRo_0 c10_hRo_1 c10_hRo_2 c10_hRo_3 c10_hX_0 c10_hX_1 c10_hX_2 c10_hX_3 c10_hZ_0 c10_hZ_1 c10_hZ_2 c10_hZ_3
          obtain ⟨c11_hMo_0, c11_hMo_1, c11_hMo_2, c11_hMo_3⟩ := hMo.cells4
          obtain ⟨c11_hRo_0, c11_hRo_1, c11_hRo_2, c11_hRo_3⟩ := hRo.cells4
          obtain ⟨c11_hX_0, c11_hX_1, c11_hX_2, c11_hX_3⟩ := hX.cells4
          obtain ⟨c11_hZ_0, c11_hZ_1, c11_hZ_2, c11_hZ_3⟩ := hZ.cells4
          go_wp2
          go_ret
          exact ⟨rfl, hB⟩
      · go_wp2_with fail
        refine (hL _).mono ?_
        rintro e w5 ⟨rfl, b5⟩
        replace hv := hv.below b5
        replace hMo := hMo.below b5 hMo.lt
        replace hRo := hRo.below b5 hRo.lt
        replace i1 := i1.below b5
        replace i2 := i2.below b5
        replace i3 := i3.below b5
        replace i4 := i4.below b5
        replace hX := hX.below b5 hX.lt
        replace hZ := hZ.below b5 hZ.lt
        replace j1 := j1.below b5
        replace j2 := j2.below b5
        replace j3 := j3.below b5
        replace j4 := j4.below b5
        replace hB := hB.trans (b5.mono hB.size)
        clear c9_hMo_0 c9_hMo_1 c9_hMo_2 c9_hMo_3 c9_hRo_0 c9_hRo_1 c9_hRo_2 c9_hRo_3 c9_hX_0 c9_hX_1 c9_hX_2 c9_hX_3 c9_hZ_0 c9_hZ_1 c9_hZ_2 c9_hZ_3
        obtain ⟨c10_hMo_0, c10_hMo_1, c10_hMo_2, c10_hMo_3⟩ := hMo.cells4
        obtain ⟨c10_hRo_0, c10_hRo_1, c10_hRo_2, c10_hRo_3⟩ := hRo.cells4
        obtain ⟨c10_hX_0, c10_hX_1, c10_hX_2, c10_hX_3⟩ := hX.cells4
        obtain ⟨c10_hZ_0, c10_hZ_1, c10_hZ_2, c10_hZ_3⟩ := hZ.cells4
        go_wp2
        go_ret
        exact ⟨rfl, hB⟩
    · go_wp2_with fail
      refine (hH1 _ hB).mono ?_
      rintro e w3 ⟨rfl, b3⟩
      replace hv := hv.below b3
      replace hMo := hMo.below b3 hMo.lt
      replace hRo := hRo.below b3 hRo.lt
      replace i1 := i1.below b3
      replace i2 := i2.below b3
      replace i3 := i3.below b3
      replace i4 := i4.below b3
      replace hX := hX.below b3 hX.lt
      replace hZ := hZ.below b3 hZ.lt
      replace j1 := j1.below b3
      replace j2 := j2.below b3
      replace j3 := j3.below b3
      replace j4 := j4.below b3
      replace hB := hB.trans (b3.mono hB.size)
      clear c7_hMo_0 c7_hMo_1 c7_hMo_2 c7_hMo_3 c7_hRo_0 c7_hRo_1 c7_hRo_2 c7_hRo_3 c7_hX_0 c7_hX_1 c7_hX_2 c7_hX_3 c7_hZ_0 c7_hZ_1 c7_hZ_2 c7_hZ_3
      obtain ⟨c8_hMo_0, c8_hMo_1, c8_hMo_2, c8_hMo_3⟩ := hMo.cells4
      obtain ⟨c8_hRo_0, c8_hRo_1, c8_hRo_2, c8_hRo_3⟩ := hRo.cells4
      obtain ⟨c8_hX_0, c8_hX_1, c8_hX_2, c8_hX_3⟩ := hX.cells4
      obtain ⟨c8_hZ_0, c8_hZ_1, c8_hZ_2, c8_hZ_3⟩ := hZ.cells4
      go_wp2_with fail
      refine (hL _).mono ?_
      rintro e w4 ⟨rfl, b4⟩
      replace hv := hv.below b4
      replace hMo := hMo.below b4 hMo.lt
      replace hRo := hRo.below b4 hRo.lt
      replace i1 := i1.below b4
      replace i2 := i2.below b4
      replace i3 := i3.below b4
      replace i4 := i4.below b4
      replace hX := hX.below b4 hX.lt
      replace hZ := hZ.below b4 hZ.lt
      replace j1 := j1.below b4
      replace j2 := j2.below b4
      replace j3 := j3.below b4
      replace j4 := j4.below b4
      replace hB := hB.trans (b4.mono hB.size)
      clear c8_hMo_0 c8_hMo_1 c8_hMo_2 c8_hMo_3 c8_hRo_0 c8_hRo_1 c8_hRo_2 c8_hRo_3 c8_hX_0 c8_hX_1 c8_hX_2 c8_hX_3 c8_hZ_0 c8_hZ_1 c8_hZ_2 c8_hZ_3
      obtain ⟨c9_hMo_0, c9_hMo_1, c9_hMo_2, c9_hMo_3⟩ := hMo.cells4
      obtain ⟨c9_hRo_0, c9_hRo_1, c9_hRo_2, c9_hRo_3⟩ := hRo.cells4
      obtain ⟨c9_hX_0, c9_hX_1, c9_hX_2, c9_hX_3⟩ := hX.cells4
      obtain ⟨c9_hZ_0, c9_hZ_1, c9_hZ_2, c9_hZ_3⟩ := hZ.cells4
      go_wp2
      go_ret
      exact ⟨rfl, hB⟩
  · rw [decide_eq_false hfew] at hF
    have HV := Lib.hid hv
    clear k1 k2 k3 k4 hdf hfew
    obtain ⟨W0, hW, hT, hB⟩ := box2 w 23 26 #[.int .i64 lr, .int .i64 mu, .int .i64 wd, .bool nest] #[.slice Aa A.length Ca, .slice Ab B.length Cb, .slice Ac C.length Cc, .slice Ad D.length Cd]
    obtain ⟨g, hg⟩ : ∃ g, g = w.heap.size := ⟨_, rfl⟩
    have hW' := Lib.hid (And.intro hW hg)
    rw [← hg] at hT
    have hgw : w.heap.size ≤ g := by omega
    clear hW hg
    obtain ⟨hMo, hRo⟩ := hT
    replace hv := hv.below hB
    obtain ⟨c1_hMo_0, c1_hMo_1, c1_hMo_2, c1_hMo_3⟩ := hMo.cells4
    obtain ⟨c1_hRo_0, c1_hRo_1, c1_hRo_2, c1_hRo_3⟩ := hRo.cells4
    go_enter Try.func7, Try.ntmps7
    go_wp2_with fail
    rw [← hW'.out.1, ← hW'.out.2]
    refine (hF _ hv).mono ?_
    rintro e w1 ⟨rfl, b1⟩
    replace hv := hv.below b1
    replace hMo := hMo.below b1 hMo.lt
    replace hRo := hRo.below b1 hRo.lt
    replace hB := hB.trans (b1.mono hB.size)
    clear c1_hMo_0 c1_hMo_1 c1_hMo_2 c1_hMo_3 c1_hRo_0 c1_hRo_1 c1_hRo_2 c1_hRo_3
    obtain ⟨c2_hMo_0, c2_hMo_1, c2_hMo_2, c2_hMo_3⟩ := hMo.cells4
    obtain ⟨c2_hRo_0, c2_hRo_1, c2_hRo_2, c2_hRo_3⟩ := hRo.cells4
    go_wp2_with fail
    refine (hL _).mono ?_
    rintro e w2 ⟨rfl, b2⟩
    replace hv := hv.below b2
    replace hMo := hMo.below b2 hMo.lt
    replace hRo := hRo.below b2 hRo.lt
    replace hB := hB.trans (b2.mono hB.size)
    clear c2_hMo_0 c2_hMo_1 c2_hMo_2 c2_hMo_3 c2_hRo_0 c2_hRo_1 c2_hRo_2 c2_hRo_3
    obtain ⟨c3_hMo_0, c3_hMo_1, c3_hMo_2, c3_hMo_3⟩ := hMo.cells4
    obtain ⟨c3_hRo_0, c3_hRo_1, c3_hRo_2, c3_hRo_3⟩ := hRo.cells4
    go_wp2
    go_ret
    exact ⟨rfl, hB⟩
end Go.Proofs.Ytbnnonmkkkhepaa
