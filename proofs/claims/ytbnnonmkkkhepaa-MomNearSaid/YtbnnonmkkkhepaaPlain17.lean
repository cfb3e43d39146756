/- Without momentum and decay a velocity is the gradient, and a weight goes by Lr times it; with no rate weights stay; without gradients, velocities and decay all stays. No conditions: every input. Printed by gen_plain.py. -/
import Derived.Test.YtbnnonmkkkhepaaTurned
import Derived.Test.YtbnnonmkkkhepaaRight17
import Derived.Deep.RegionHeld3
import Derived.Deep.DrawnRows
import Derived.Deep.DeepCutAuto
namespace Go.Proofs.Ytbnnonmkkkhepaa
open Go.ChangeShapes Go.WideShapes Go.ChangeAt Go.RowKit
attribute [local go_sem ↓] Go.wp_at_zero Go.wp_at_succ

theorem IsI.form {w : World} {v : Value} {l : List Int} (h : IsI w v l) : ∃ A C, v = .slice A l.length C ∧ l.length ≤ C ∧ C ≤ 9223372036854775807 := by obtain ⟨A, C, e, h1, h2, _⟩ := h; exact ⟨A, C, e, h1, h2⟩
theorem IsI.at_ {w : World} {A : Option Addr} {n C k : Nat} {l : List Int} (h : IsI w (.slice A n C) l) (hk : k < l.length) : ∃ ad, A = some ad ∧ w.cell? (ad.add k) = some (.int .i64 (iat l k)) := by
  obtain ⟨A', c', e, _, _, r⟩ := h
  injection e with e1 e2 e3
  subst e1 e2 e3
  obtain ⟨ad, e, _, h⟩ := is_cell r hk
  exact ⟨ad, e, h⟩
theorem stWs_le (lr mu wd : Int) (nest : Bool) (f : Int) (W M G : List Int) : (stWs lr mu wd nest f W M G).length ≤ W.length := by unfold stWs; split <;> simp
theorem stMs_le (lr mu wd : Int) (nest : Bool) (f : Int) (W M G : List Int) : (stMs lr mu wd nest f W M G).length ≤ W.length := by unfold stMs; split <;> simp
/-- the three steps, plainly -/
def PlainFacts (lr f : Int) (A D xs1 ys1 xs2 xs3 ys3 : List Int) (e1 e2 e3 : Int) (r : Bool) : Prop :=
  ((e1 = 0 → ys1 = D ∧ xs1.length = A.length ∧ ∀ i, i < A.length → IntKind.i64.wrap (iat A i - fitV (mulZ lr (iat D i) f.toNat)) = iat xs1 i) ∧ (e2 = 0 → xs2 = A)) ∧
  ((r = true ∧ e3 = 0 ∧ xs3 = A ∧ ys3 = List.replicate A.length 0) ∨ (r = false ∧ e3 = 1))
theorem wrap_In64 {x : Int} (h : In64 x) : IntKind.i64.wrap x = x := by unfold In64 at h; rw [IntKind.wrap_i64]; omega
theorem plain_facts (lr mu f : Int) (nest : Bool) {A B D : List Int} (iA : AllIn A) (iD : AllIn D) :
    PlainFacts lr f A D (stWs lr 0 0 false f A B D) (stMs lr 0 0 false f A B D) (stWs 0 mu 0 nest f A B D) (stWs lr mu 0 nest f A (List.replicate A.length 0) (List.replicate A.length 0)) (stMs lr mu 0 nest f A (List.replicate A.length 0) (List.replicate A.length 0))
      (stErr lr 0 0 false f A B D) (stErr 0 mu 0 nest f A B D) (stErr lr mu 0 nest f A (List.replicate A.length 0) (List.replicate A.length 0)) (rightM lr mu 0 f) := by
  refine ⟨⟨fun e => ?_, fun e => still_runs iA e⟩, ?_⟩
  · obtain ⟨h1, h2, h3⟩ := plain_runs iA iD e
    exact ⟨h1, h2, fun i hi => by rw [(h3 i hi).1]; exact wrap_In64 (h3 i hi).2⟩
  · obtain ⟨h1, h2⟩ := none_runs lr mu f nest iA
    cases h : rightM lr mu 0 f
    · exact .inr ⟨rfl, by rw [h1, h]; rfl⟩
    · exact .inl ⟨rfl, by rw [h1, h]; rfl, h2 h⟩
theorem two_new (w : World) (t t' : TypeId) (c c' : Array Value) : Blk ((w.alloc (.cells c t)).alloc (.cells c' t')).drew w.heap.size t c ∧ Blk ((w.alloc (.cells c t)).alloc (.cells c' t')).drew (w.heap.size + 1) t' c' ∧ Below w.heap.size w ((w.alloc (.cells c t)).alloc (.cells c' t')).drew := by
  obtain ⟨W, e, ⟨h1, h2⟩, hb⟩ := box2 w t t' c c'
  rw [← e]
  exact ⟨h1, h2, hb.drew⟩
theorem cellB {w w' : World} {a : Addr} {v : Value} (h : Below w.heap.size w w') (hc : w.cell? a = some v) : w'.cell? a = some v := (h.cell (World.block_lt_of_cell? w _ hc)).trans hc
theorem same_true (va vb : Value) (l : List Int) (w : World) (ha : IsI w va l) (hb : IsI w vb l) : Calls Try.prog 21 #[va, vb] w fun e w' => e = .returned (.bool true) ∧ ∃ n, w' = w.drewN n :=
  (same_any va vb l l w ha hb).mono (fun e w' k => ⟨k.1.trans (by simp), k.2⟩)
theorem mk0 (w : World) (n : Nat) (hn : n ≤ 1000000) : ∃ W, W = w.alloc (.cells (is (List.replicate n 0)).toArray 2) ∧ IsI W (.slice (some ⟨w.heap.size, 0, none⟩) n n) (List.replicate n 0) ∧ Below w.heap.size w W := by
  refine ⟨_, rfl, ?_, (Below.refl _ w).alloc (Nat.le_refl _) _⟩
  have := IsI.fresh w 2 (List.replicate n 0) (by simp; omega)
  simpa using this
theorem Blk.toTwo {w : World} {g : Nat} {t t' : TypeId} {c c' : Array Value} (h : Blk w g t c) (h' : Blk w (g + 1) t' c') : Two w g t c t' c' := ⟨h, h'⟩
set_option maxRecDepth 100000 in
set_option maxHeartbeats 16000000 in
theorem MomPlain_all (lr mu wd f : Int) (nest : Bool) (v : Value) (A B C D : List Int) (w : World) (h : IsR w v A B C D) (hlr : In64 lr) (hmu : In64 mu) (hwd : In64 wd) (hfr : In64 f) (iA : AllIn A) (iB : AllIn B) (iD : AllIn D)
    (k1 : A.length ≤ 17592186044416) (k2 : B.length ≤ 17592186044416) (k3 : C.length ≤ 17592186044416) (k4 : D.length ≤ 17592186044416) :
    Calls Try.prog 6 #[.agg #[.int .i64 lr, .int .i64 mu, .int .i64 wd, .bool nest], v, .int .i64 f] w fun e w' => e = .returned (.bool true) ∧ Below w.heap.size w w' := by
  have hF := fun w h => few17_any v A B C D 36 w h k1 k2 k3 k4 (by omega)
  have hL := fun w => alive17_any w
  have hv := h
  obtain ⟨a, b, c, d, rfl, ha, hb, hc, hd⟩ := h
  obtain ⟨Aa, Ca, rfl, _, _⟩ := ha.form
  obtain ⟨Ab, Cb, rfl, _, _⟩ := hb.form
  obtain ⟨Ac, Cc, rfl, _, _⟩ := hc.form
  obtain ⟨Ad, Cd, rfl, _, _⟩ := hd.form
  by_cases hfew : A.length + B.length + C.length + D.length ≤ 36
  · rw [decide_eq_true hfew] at hF
    by_cases hm : B.length = A.length
    · by_cases hg : D.length = A.length
      · rw [hm, hg] at hv hF ⊢
        rw [hg] at hd
        have hS1 := fun w h => Step_all lr 0 0 f false _ A B C D w (hv.below h) (by omega) hlr In64.zero In64.zero iA iB iD
        have hS2 := fun w h => Step_all 0 mu 0 f nest _ A B C D w (hv.below h) (by omega) In64.zero hmu In64.zero iA iB iD
        have iZ : AllIn (List.replicate A.length 0) := AllIn.of_mem fun x hx => by rw [List.eq_of_mem_replicate hx]; exact In64.zero
        have hS3 := fun v w h => Step_all lr mu 0 f nest v A (List.replicate A.length 0) [] (List.replicate A.length 0) w h (by omega) hlr hmu In64.zero iA iZ iZ
        have hRt := fun w => right17_any lr mu 0 f false w
        have hP := plain_facts lr mu f nest (B := B) iA iD
        have hE1 : 0 ≤ f → f ≤ 40 → ∀ x, In64 x → ∀ w, Calls Try.prog 18 #[.int .i64 lr, .int .i64 x, .int .i64 f] w fun e w' => e = .returned (.tuple #[.int .i64 (fitV (mulZ lr x f.toNat)), .int .i64 (fitE (mulZ lr x f.toNat))]) ∧ Below w.heap.size w w' := by
          intro h0 h1 x hx w
          obtain ⟨k, rfl⟩ := Int.eq_ofNat_of_zero_le h0
          exact r08mul_any lr x k w (by omega) hlr hx
        have hf0 : stErr lr 0 0 false f A B D = 0 → 0 ≤ f ∧ f ≤ 40 := fun e => rightM_f (stErr_zero e).1
        have l1 := stWs_le lr 0 0 false f A B D
        have l2 := stMs_le lr 0 0 false f A B D
        have l3 := stWs_le 0 mu 0 nest f A B D
        generalize stWs lr 0 0 false f A B D = xs1 at *
        generalize stMs lr 0 0 false f A B D = ys1 at *
        generalize stWs 0 mu 0 nest f A B D = xs2 at *
        generalize stMs 0 mu 0 nest f A B D = ys2 at *
        generalize stWs lr mu 0 nest f A (List.replicate A.length 0) (List.replicate A.length 0) = xs3 at *
        generalize stMs lr mu 0 nest f A (List.replicate A.length 0) (List.replicate A.length 0) = ys3 at *
        generalize stErr lr 0 0 false f A B D = e1 at *
        generalize stErr 0 mu 0 nest f A B D = e2 at *
        generalize stErr lr mu 0 nest f A (List.replicate A.length 0) (List.replicate A.length 0) = e3 at *
        generalize rightM lr mu 0 f = rt at *
        have HP := Lib.hid hP
        have HF0 := Lib.hid hf0
        have HE1 := Lib.hid hE1
        have HID := Lib.hid iD
        have HLN := Lib.hid (And.intro hm (And.intro hg (And.intro l1 (And.intro l2 l3))))
        clear hP hf0 hE1 hlr hmu hwd hfr iA iB iD iZ k2 k3 k4 l1 l2 l3 hm hg
        obtain ⟨W0, hW, hT, hB⟩ := box2 w 23 26 #[.int .i64 lr, .int .i64 mu, .int .i64 wd, .bool nest] #[.slice Aa A.length Ca, .slice Ab A.length Cb, .slice Ac C.length Cc, .slice Ad A.length Cd]
        obtain ⟨g, hg⟩ : ∃ g, g = w.heap.size := ⟨_, rfl⟩
        have hW' := Lib.hid (And.intro hW hg)
        rw [← hg] at hT
        have hgw : w.heap.size ≤ g := by omega
        clear hW hg
        obtain ⟨hMo, hRo⟩ := hT
        replace hv := hv.below hB
        replace ha := ha.below hB
        replace hd := hd.below hB
        obtain ⟨c1_hMo_0, c1_hMo_1, c1_hMo_2, c1_hMo_3⟩ := hMo.cells4
        obtain ⟨c1_hRo_0, c1_hRo_1, c1_hRo_2, c1_hRo_3⟩ := hRo.cells4
        go_enter Try.func6, Try.ntmps6
        go_wp2_with fail
        rw [← hW'.out.1, ← hW'.out.2]
        refine (hF _ hv).mono ?_
        rintro e w1 ⟨rfl, b1⟩
        replace hv := hv.below b1
        replace ha := ha.below b1
        replace hd := hd.below b1
        replace hMo := hMo.below b1 hMo.lt
        replace hRo := hRo.below b1 hRo.lt
        replace hB := hB.trans (b1.mono hB.size)
        clear c1_hMo_0 c1_hMo_1 c1_hMo_2 c1_hMo_3 c1_hRo_0 c1_hRo_1 c1_hRo_2 c1_hRo_3
        obtain ⟨c2_hMo_0, c2_hMo_1, c2_hMo_2, c2_hMo_3⟩ := hMo.cells4
        obtain ⟨c2_hRo_0, c2_hRo_1, c2_hRo_2, c2_hRo_3⟩ := hRo.cells4
        have hmk := run_make_i64 24 Try.underlying24 A.length A.length rfl (by omega)
        go_upto_region 3 with fail
        go_cut [7, 8] (fun s t wx => ∃ X Y, s = .pointer (some ⟨X, 0, none⟩) ∧ t = .pointer (some ⟨Y, 0, none⟩) ∧ Blk wx X 23 #[.int .i64 lr, .int .i64 0, .int .i64 0, .bool false] ∧ Blk wx Y 23 #[.int .i64 0, .int .i64 mu, .int .i64 0, .bool nest] ∧ Below w1.heap.size w1 wx)
        case first =>
          have y0 := World.new_ne w1 _ c2_hMo_0
          have y1 := World.new_ne w1 _ c2_hMo_1
          have y3 := World.new_ne w1 _ c2_hMo_3
          have z0 : w1.heap.size + 1 ≠ g := by have := hMo.lt; omega
          go_region_held3 (fun w' => w'.cell? ⟨g, 0, none⟩ = some (.int .i64 lr) ∧ w'.cell? ⟨g, 1, none⟩ = some (.int .i64 mu) ∧ w'.cell? ⟨g, 3, none⟩ = some (.bool nest))
            (go_keep)
            (fail)
          all_goals (go_wp2_with fail; go_meet)
          all_goals
            first
              | exact ⟨_, _, rfl, rfl, (two_new _ _ _ _ _).1, (two_new _ _ _ _ _).2.1, (two_new _ _ _ _ _).2.2⟩
              | exact ⟨_, _, rfl, rfl, (two_new _ _ _ _ _).2.1, (two_new _ _ _ _ _).1, (two_new _ _ _ _ _).2.2⟩
        obtain ⟨X, Y, rfl, rfl, hX7, hX8, bz⟩ := hcut
        replace hv := hv.below bz
        replace ha := ha.below bz
        replace hd := hd.below bz
        replace hMo := hMo.below bz hMo.lt
        replace hRo := hRo.below bz hRo.lt
        replace hB := hB.trans (bz.mono hB.size)
        clear c2_hMo_0 c2_hMo_1 c2_hMo_2 c2_hMo_3 c2_hRo_0 c2_hRo_1 c2_hRo_2 c2_hRo_3
        obtain ⟨c3_hMo_0, c3_hMo_1, c3_hMo_2, c3_hMo_3⟩ := hMo.cells4
        obtain ⟨c3_hRo_0, c3_hRo_1, c3_hRo_2, c3_hRo_3⟩ := hRo.cells4
        clear c3_hMo_0 c3_hMo_1 c3_hMo_2 c3_hMo_3 c3_hRo_0 c3_hRo_1 c3_hRo_2 c3_hRo_3
        obtain ⟨c4_hMo_0, c4_hMo_1, c4_hMo_2, c4_hMo_3⟩ := hMo.cells4
        obtain ⟨c4_hRo_0, c4_hRo_1, c4_hRo_2, c4_hRo_3⟩ := hRo.cells4
        obtain ⟨c4_hX7_0, c4_hX7_1, c4_hX7_2, c4_hX7_3⟩ := hX7.cells4
        obtain ⟨c4_hX8_0, c4_hX8_1, c4_hX8_2, c4_hX8_3⟩ := hX8.cells4
        go_wp2_with fail
        refine (hS1 _ hB).mono ?_
        rintro e w2 ⟨v2, rfl, ⟨x1, x2, x3, x4, rfl, i1, i2, i3, i4⟩, b2⟩
        replace hv := hv.below b2
        replace ha := ha.below b2
        replace hd := hd.below b2
        replace hMo := hMo.below b2 hMo.lt
        replace hRo := hRo.below b2 hRo.lt
        replace hX7 := hX7.below b2 hX7.lt
        replace hX8 := hX8.below b2 hX8.lt
        replace hB := hB.trans (b2.mono hB.size)
        clear c4_hMo_0 c4_hMo_1 c4_hMo_2 c4_hMo_3 c4_hRo_0 c4_hRo_1 c4_hRo_2 c4_hRo_3 c4_hX7_0 c4_hX7_1 c4_hX7_2 c4_hX7_3 c4_hX8_0 c4_hX8_1 c4_hX8_2 c4_hX8_3
        obtain ⟨c5_hMo_0, c5_hMo_1, c5_hMo_2, c5_hMo_3⟩ := hMo.cells4
        obtain ⟨c5_hRo_0, c5_hRo_1, c5_hRo_2, c5_hRo_3⟩ := hRo.cells4
        obtain ⟨c5_hX7_0, c5_hX7_1, c5_hX7_2, c5_hX7_3⟩ := hX7.cells4
        obtain ⟨c5_hX8_0, c5_hX8_1, c5_hX8_2, c5_hX8_3⟩ := hX8.cells4
        obtain ⟨Ax1, Cx1, rfl, _, _⟩ := i1.form
        obtain ⟨Ax2, Cx2, rfl, _, _⟩ := i2.form
        obtain ⟨Ax3, Cx3, rfl, _, _⟩ := i3.form
        obtain ⟨Ax4, Cx4, rfl, _, _⟩ := i4.form
        obtain ⟨V1, eV, hX9, bV1⟩ := box1 w2 26 #[.slice Ax1 xs1.length Cx1, .slice Ax2 ys1.length Cx2, .slice Ax3 0 Cx3, .slice Ax4 0 Cx4]
        obtain ⟨X1, eX⟩ : ∃ X, X = w2.heap.size := ⟨_, rfl⟩
        rw [← eX] at hX9
        have EV1 := Lib.hid (And.intro eV eX)
        clear eV eX
        go_upto_region 5 with fail
        rw [← EV1.out.1, ← EV1.out.2]
        replace hv := hv.below bV1
        replace ha := ha.below bV1
        replace hd := hd.below bV1
        replace hMo := hMo.below bV1 hMo.lt
        replace hRo := hRo.below bV1 hRo.lt
        replace hX7 := hX7.below bV1 hX7.lt
        replace hX8 := hX8.below bV1 hX8.lt
        replace i1 := i1.below bV1
        replace i2 := i2.below bV1
        replace i3 := i3.below bV1
        replace i4 := i4.below bV1
        replace hB := hB.trans (bV1.mono hB.size)
        clear c5_hMo_0 c5_hMo_1 c5_hMo_2 c5_hMo_3 c5_hRo_0 c5_hRo_1 c5_hRo_2 c5_hRo_3 c5_hX7_0 c5_hX7_1 c5_hX7_2 c5_hX7_3 c5_hX8_0 c5_hX8_1 c5_hX8_2 c5_hX8_3
        obtain ⟨c6_hMo_0, c6_hMo_1, c6_hMo_2, c6_hMo_3⟩ := hMo.cells4
        obtain ⟨c6_hRo_0, c6_hRo_1, c6_hRo_2, c6_hRo_3⟩ := hRo.cells4
        obtain ⟨c6_hX7_0, c6_hX7_1, c6_hX7_2, c6_hX7_3⟩ := hX7.cells4
        obtain ⟨c6_hX8_0, c6_hX8_1, c6_hX8_2, c6_hX8_3⟩ := hX8.cells4
        clear c6_hMo_0 c6_hMo_1 c6_hMo_2 c6_hMo_3 c6_hRo_0 c6_hRo_1 c6_hRo_2 c6_hRo_3 c6_hX7_0 c6_hX7_1 c6_hX7_2 c6_hX7_3 c6_hX8_0 c6_hX8_1 c6_hX8_2 c6_hX8_3
        obtain ⟨c7_hMo_0, c7_hMo_1, c7_hMo_2, c7_hMo_3⟩ := hMo.cells4
        obtain ⟨c7_hRo_0, c7_hRo_1, c7_hRo_2, c7_hRo_3⟩ := hRo.cells4
        obtain ⟨c7_hX7_0, c7_hX7_1, c7_hX7_2, c7_hX7_3⟩ := hX7.cells4
        obtain ⟨c7_hX8_0, c7_hX8_1, c7_hX8_2, c7_hX8_3⟩ := hX8.cells4
        obtain ⟨c7_hX9_0, c7_hX9_1, c7_hX9_2, c7_hX9_3⟩ := hX9.cells4
        go_wp2_with fail
        refine (hS2 _ hB).mono ?_
        rintro e w3 ⟨v3, rfl, ⟨y1, y2, y3, y4, rfl, j1, j2, j3, j4⟩, b3⟩
        replace hv := hv.below b3
        replace ha := ha.below b3
        replace hd := hd.below b3
        replace hMo := hMo.below b3 hMo.lt
        replace hRo := hRo.below b3 hRo.lt
        replace hX7 := hX7.below b3 hX7.lt
        replace hX8 := hX8.below b3 hX8.lt
        replace i1 := i1.below b3
        replace i2 := i2.below b3
        replace hX9 := hX9.below b3 hX9.lt
        replace hB := hB.trans (b3.mono hB.size)
        clear c7_hMo_0 c7_hMo_1 c7_hMo_2 c7_hMo_3 c7_hRo_0 c7_hRo_1 c7_hRo_2 c7_hRo_3 c7_hX7_0 c7_hX7_1 c7_hX7_2 c7_hX7_3 c7_hX8_0 c7_hX8_1 c7_hX8_2 c7_hX8_3 c7_hX9_0 c7_hX9_1 c7_hX9_2 c7_hX9_3
        obtain ⟨c8_hMo_0, c8_hMo_1, c8_hMo_2, c8_hMo_3⟩ := hMo.cells4
        obtain ⟨c8_hRo_0, c8_hRo_1, c8_hRo_2, c8_hRo_3⟩ := hRo.cells4
        obtain ⟨c8_hX7_0, c8_hX7_1, c8_hX7_2, c8_hX7_3⟩ := hX7.cells4
        obtain ⟨c8_hX8_0, c8_hX8_1, c8_hX8_2, c8_hX8_3⟩ := hX8.cells4
        obtain ⟨c8_hX9_0, c8_hX9_1, c8_hX9_2, c8_hX9_3⟩ := hX9.cells4
        obtain ⟨Ay1, Cy1, rfl, _, _⟩ := j1.form
        obtain ⟨Ay2, Cy2, rfl, _, _⟩ := j2.form
        obtain ⟨Ay3, Cy3, rfl, _, _⟩ := j3.form
        obtain ⟨Ay4, Cy4, rfl, _, _⟩ := j4.form
        obtain ⟨V2, eV, hX11, bV2⟩ := box1 w3 26 #[.slice Ay1 xs2.length Cy1, .slice Ay2 ys2.length Cy2, .slice Ay3 0 Cy3, .slice Ay4 0 Cy4]
        obtain ⟨X2, eX⟩ : ∃ X, X = w3.heap.size := ⟨_, rfl⟩
        rw [← eX] at hX11
        have EV2 := Lib.hid (And.intro eV eX)
        clear eV eX
        go_upto_region 6 with fail
        rw [← EV2.out.1, ← EV2.out.2]
        replace hv := hv.below bV2
        replace ha := ha.below bV2
        replace hd := hd.below bV2
        replace hMo := hMo.below bV2 hMo.lt
        replace hRo := hRo.below bV2 hRo.lt
        replace hX7 := hX7.below bV2 hX7.lt
        replace hX8 := hX8.below bV2 hX8.lt
        replace i1 := i1.below bV2
        replace i2 := i2.below bV2
        replace hX9 := hX9.below bV2 hX9.lt
        replace j1 := j1.below bV2
        replace j2 := j2.below bV2
        replace j3 := j3.below bV2
        replace j4 := j4.below bV2
        replace hB := hB.trans (bV2.mono hB.size)
        clear c8_hMo_0 c8_hMo_1 c8_hMo_2 c8_hMo_3 c8_hRo_0 c8_hRo_1 c8_hRo_2 c8_hRo_3 c8_hX7_0 c8_hX7_1 c8_hX7_2 c8_hX7_3 c8_hX8_0 c8_hX8_1 c8_hX8_2 c8_hX8_3 c8_hX9_0 c8_hX9_1 c8_hX9_2 c8_hX9_3
        obtain ⟨c9_hMo_0, c9_hMo_1, c9_hMo_2, c9_hMo_3⟩ := hMo.cells4
        obtain ⟨c9_hRo_0, c9_hRo_1, c9_hRo_2, c9_hRo_3⟩ := hRo.cells4
        obtain ⟨c9_hX7_0, c9_hX7_1, c9_hX7_2, c9_hX7_3⟩ := hX7.cells4
        obtain ⟨c9_hX8_0, c9_hX8_1, c9_hX8_2, c9_hX8_3⟩ := hX8.cells4
        obtain ⟨c9_hX9_0, c9_hX9_1, c9_hX9_2, c9_hX9_3⟩ := hX9.cells4
        clear c9_hMo_0 c9_hMo_1 c9_hMo_2 c9_hMo_3 c9_hRo_0 c9_hRo_1 c9_hRo_2 c9_hRo_3 c9_hX7_0 c9_hX7_1 c9_hX7_2 c9_hX7_3 c9_hX8_0 c9_hX8_1 c9_hX8_2 c9_hX8_3 c9_hX9_0 c9_hX9_1 c9_hX9_2 c9_hX9_3
        obtain ⟨c10_hMo_0, c10_hMo_1, c10_hMo_2, c10_hMo_3⟩ := hMo.cells4
        obtain ⟨c10_hRo_0, c10_hRo_1, c10_hRo_2, c10_hRo_3⟩ := hRo.cells4
        obtain ⟨c10_hX7_0, c10_hX7_1, c10_hX7_2, c10_hX7_3⟩ := hX7.cells4
        obtain ⟨c10_hX8_0, c10_hX8_1, c10_hX8_2, c10_hX8_3⟩ := hX8.cells4
        obtain ⟨c10_hX9_0, c10_hX9_1, c10_hX9_2, c10_hX9_3⟩ := hX9.cells4
        obtain ⟨c10_hX11_0, c10_hX11_1, c10_hX11_2, c10_hX11_3⟩ := hX11.cells4
        obtain ⟨V3, eV, hz, bV3⟩ := mk0 V2 A.length (by omega)
        obtain ⟨X3, eX⟩ : ∃ X, X = V2.heap.size := ⟨_, rfl⟩
        rw [← eX] at hz
        have EV3 := Lib.hid (And.intro eV eX)
        clear eV eX
        go_upto_region 7 with fail
        rw [← EV3.out.1, ← EV3.out.2]
        replace hv := hv.below bV3
        replace ha := ha.below bV3
        replace hd := hd.below bV3
        replace hMo := hMo.below bV3 hMo.lt
        replace hRo := hRo.below bV3 hRo.lt
        replace hX7 := hX7.below bV3 hX7.lt
        replace hX8 := hX8.below bV3 hX8.lt
        replace i1 := i1.below bV3
        replace i2 := i2.below bV3
        replace hX9 := hX9.below bV3 hX9.lt
        replace j1 := j1.below bV3
        replace hX11 := hX11.below bV3 hX11.lt
        replace hB := hB.trans (bV3.mono hB.size)
        clear c10_hMo_0 c10_hMo_1 c10_hMo_2 c10_hMo_3 c10_hRo_0 c10_hRo_1 c10_hRo_2 c10_hRo_3 c10_hX7_0 c10_hX7_1 c10_hX7_2 c10_hX7_3 c10_hX8_0 c10_hX8_1 c10_hX8_2 c10_hX8_3 c10_hX9_0 c10_hX9_1 c10_hX9_2 c10_hX9_3 c10_hX11_0 c10_hX11_1 c10_hX11_2 c10_hX11_3
        obtain ⟨c11_hMo_0, c11_hMo_1, c11_hMo_2, c11_hMo_3⟩ := hMo.cells4
        obtain ⟨c11_hRo_0, c11_hRo_1, c11_hRo_2, c11_hRo_3⟩ := hRo.cells4
        obtain ⟨c11_hX7_0, c11_hX7_1, c11_hX7_2, c11_hX7_3⟩ := hX7.cells4
        obtain ⟨c11_hX8_0, c11_hX8_1, c11_hX8_2, c11_hX8_3⟩ := hX8.cells4
        obtain ⟨c11_hX9_0, c11_hX9_1, c11_hX9_2, c11_hX9_3⟩ := hX9.cells4
        obtain ⟨c11_hX11_0, c11_hX11_1, c11_hX11_2, c11_hX11_3⟩ := hX11.cells4
        go_wp2_with fail
        refine (hS3 _ _ ⟨_, _, _, _, rfl, ha, hz, IsI.nil _, hz⟩).mono ?_
        rintro e w4 ⟨v4, rfl, ⟨z1, z2, z3, z4, rfl, o1, o2, o3, o4⟩, b4⟩
        replace hv := hv.below b4
        replace ha := ha.below b4
        replace hd := hd.below b4
        replace hMo := hMo.below b4 hMo.lt
        replace hRo := hRo.below b4 hRo.lt
        replace hX7 := hX7.below b4 hX7.lt
        replace hX8 := hX8.below b4 hX8.lt
        replace i1 := i1.below b4
        replace i2 := i2.below b4
        replace hX9 := hX9.below b4 hX9.lt
        replace j1 := j1.below b4
        replace hX11 := hX11.below b4 hX11.lt
        replace hz := hz.below b4
        replace hB := hB.trans (b4.mono hB.size)
        clear c11_hMo_0 c11_hMo_1 c11_hMo_2 c11_hMo_3 c11_hRo_0 c11_hRo_1 c11_hRo_2 c11_hRo_3 c11_hX7_0 c11_hX7_1 c11_hX7_2 c11_hX7_3 c11_hX8_0 c11_hX8_1 c11_hX8_2 c11_hX8_3 c11_hX9_0 c11_hX9_1 c11_hX9_2 c11_hX9_3 c11_hX11_0 c11_hX11_1 c11_hX11_2 c11_hX11_3
        obtain ⟨c12_hMo_0, c12_hMo_1, c12_hMo_2, c12_hMo_3⟩ := hMo.cells4
        obtain ⟨c12_hRo_0, c12_hRo_1, c12_hRo_2, c12_hRo_3⟩ := hRo.cells4
        obtain ⟨c12_hX7_0, c12_hX7_1, c12_hX7_2, c12_hX7_3⟩ := hX7.cells4
        obtain ⟨c12_hX8_0, c12_hX8_1, c12_hX8_2, c12_hX8_3⟩ := hX8.cells4
        obtain ⟨c12_hX9_0, c12_hX9_1, c12_hX9_2, c12_hX9_3⟩ := hX9.cells4
        obtain ⟨c12_hX11_0, c12_hX11_1, c12_hX11_2, c12_hX11_3⟩ := hX11.cells4
        obtain ⟨Az1, Cz1, rfl, _, _⟩ := o1.form
        obtain ⟨Az2, Cz2, rfl, _, _⟩ := o2.form
        obtain ⟨Az3, Cz3, rfl, _, _⟩ := o3.form
        obtain ⟨Az4, Cz4, rfl, _, _⟩ := o4.form
        obtain ⟨V4, eV, hX14, bV4⟩ := box1 w4 26 #[.slice Az1 xs3.length Cz1, .slice Az2 ys3.length Cz2, .slice Az3 0 Cz3, .slice Az4 0 Cz4]
        obtain ⟨X4, eX⟩ : ∃ X, X = w4.heap.size := ⟨_, rfl⟩
        rw [← eX] at hX14
        have EV4 := Lib.hid (And.intro eV eX)
        clear eV eX
        go_upto_region 8 with fail
        rw [← EV4.out.1, ← EV4.out.2]
        replace hv := hv.below bV4
        replace ha := ha.below bV4
        replace hd := hd.below bV4
        replace hMo := hMo.below bV4 hMo.lt
        replace hRo := hRo.below bV4 hRo.lt
        replace hX7 := hX7.below bV4 hX7.lt
        replace hX8 := hX8.below bV4 hX8.lt
        replace i1 := i1.below bV4
        replace i2 := i2.below bV4
        replace hX9 := hX9.below bV4 hX9.lt
        replace j1 := j1.below bV4
        replace hX11 := hX11.below bV4 hX11.lt
        replace hz := hz.below bV4
        replace o1 := o1.below bV4
        replace o2 := o2.below bV4
        replace o3 := o3.below bV4
        replace o4 := o4.below bV4
        replace hB := hB.trans (bV4.mono hB.size)
        clear c12_hMo_0 c12_hMo_1 c12_hMo_2 c12_hMo_3 c12_hRo_0 c12_hRo_1 c12_hRo_2 c12_hRo_3 c12_hX7_0 c12_hX7_1 c12_hX7_2 c12_hX7_3 c12_hX8_0 c12_hX8_1 c12_hX8_2 c12_hX8_3 c12_hX9_0 c12_hX9_1 c12_hX9_2 c12_hX9_3 c12_hX11_0 c12_hX11_1 c12_hX11_2 c12_hX11_3
        obtain ⟨c13_hMo_0, c13_hMo_1, c13_hMo_2, c13_hMo_3⟩ := hMo.cells4
        obtain ⟨c13_hRo_0, c13_hRo_1, c13_hRo_2, c13_hRo_3⟩ := hRo.cells4
        obtain ⟨c13_hX7_0, c13_hX7_1, c13_hX7_2, c13_hX7_3⟩ := hX7.cells4
        obtain ⟨c13_hX8_0, c13_hX8_1, c13_hX8_2, c13_hX8_3⟩ := hX8.cells4
        obtain ⟨c13_hX9_0, c13_hX9_1, c13_hX9_2, c13_hX9_3⟩ := hX9.cells4
        obtain ⟨c13_hX11_0, c13_hX11_1, c13_hX11_2, c13_hX11_3⟩ := hX11.cells4
        clear c13_hMo_0 c13_hMo_1 c13_hMo_2 c13_hMo_3 c13_hRo_0 c13_hRo_1 c13_hRo_2 c13_hRo_3 c13_hX7_0 c13_hX7_1 c13_hX7_2 c13_hX7_3 c13_hX8_0 c13_hX8_1 c13_hX8_2 c13_hX8_3 c13_hX9_0 c13_hX9_1 c13_hX9_2 c13_hX9_3 c13_hX11_0 c13_hX11_1 c13_hX11_2 c13_hX11_3
        obtain ⟨c14_hMo_0, c14_hMo_1, c14_hMo_2, c14_hMo_3⟩ := hMo.cells4
        obtain ⟨c14_hRo_0, c14_hRo_1, c14_hRo_2, c14_hRo_3⟩ := hRo.cells4
        obtain ⟨c14_hX7_0, c14_hX7_1, c14_hX7_2, c14_hX7_3⟩ := hX7.cells4
        obtain ⟨c14_hX8_0, c14_hX8_1, c14_hX8_2, c14_hX8_3⟩ := hX8.cells4
        obtain ⟨c14_hX9_0, c14_hX9_1, c14_hX9_2, c14_hX9_3⟩ := hX9.cells4
        obtain ⟨c14_hX11_0, c14_hX11_1, c14_hX11_2, c14_hX11_3⟩ := hX11.cells4
        obtain ⟨c14_hX14_0, c14_hX14_1, c14_hX14_2, c14_hX14_3⟩ := hX14.cells4
        by_cases he1 : e1 = 0
        · subst he1
          obtain ⟨hyd, hl, hat⟩ := HP.out.1.1 (by first | rfl | trivial)
          subst hyd
          have hM := HE1.out (HF0.out (by first | rfl | trivial)).1 (HF0.out (by first | rfl | trivial)).2
          have hdl := HLN.out.2.1
          rw [hl] at hX9 i1
          rw [hdl] at hX9 i2
          clear c14_hMo_0 c14_hMo_1 c14_hMo_2 c14_hMo_3 c14_hRo_0 c14_hRo_1 c14_hRo_2 c14_hRo_3 c14_hX7_0 c14_hX7_1 c14_hX7_2 c14_hX7_3 c14_hX8_0 c14_hX8_1 c14_hX8_2 c14_hX8_3 c14_hX9_0 c14_hX9_1 c14_hX9_2 c14_hX9_3 c14_hX11_0 c14_hX11_1 c14_hX11_2 c14_hX11_3 c14_hX14_0 c14_hX14_1 c14_hX14_2 c14_hX14_3
          obtain ⟨c15_hMo_0, c15_hMo_1, c15_hMo_2, c15_hMo_3⟩ := hMo.cells4
          obtain ⟨c15_hRo_0, c15_hRo_1, c15_hRo_2, c15_hRo_3⟩ := hRo.cells4
          obtain ⟨c15_hX7_0, c15_hX7_1, c15_hX7_2, c15_hX7_3⟩ := hX7.cells4
          obtain ⟨c15_hX8_0, c15_hX8_1, c15_hX8_2, c15_hX8_3⟩ := hX8.cells4
          obtain ⟨c15_hX9_0, c15_hX9_1, c15_hX9_2, c15_hX9_3⟩ := hX9.cells4
          obtain ⟨c15_hX11_0, c15_hX11_1, c15_hX11_2, c15_hX11_3⟩ := hX11.cells4
          obtain ⟨c15_hX14_0, c15_hX14_1, c15_hX14_2, c15_hX14_3⟩ := hX14.cells4
          have HAT := Lib.hid hat
          clear hat
          go_wp2
          go_loopw [16] (fun i wr => ∃ k : Nat, i = .int .i64 k ∧ k ≤ A.length ∧ Below V4.heap.size V4 wr) (fun i _ => A.length - (intOf i).toNat)
          case atStart => exact ⟨0, rfl, by omega, Below.refl _ _⟩
          case round =>
            obtain ⟨k, rfl, hk, bl⟩ := hrel
            replace hv := hv.below bl
            replace ha := ha.below bl
            replace hd := hd.below bl
            replace hMo := hMo.below bl hMo.lt
            replace hRo := hRo.below bl hRo.lt
            replace hX7 := hX7.below bl hX7.lt
            replace hX8 := hX8.below bl hX8.lt
            replace i1 := i1.below bl
            replace i2 := i2.below bl
            replace hX9 := hX9.below bl hX9.lt
            replace j1 := j1.below bl
            replace hX11 := hX11.below bl hX11.lt
            replace hz := hz.below bl
            replace o1 := o1.below bl
            replace o2 := o2.below bl
            replace hX14 := hX14.below bl hX14.lt
            replace hB := hB.trans (bl.mono hB.size)
            clear c15_hMo_0 c15_hMo_1 c15_hMo_2 c15_hMo_3 c15_hRo_0 c15_hRo_1 c15_hRo_2 c15_hRo_3 c15_hX7_0 c15_hX7_1 c15_hX7_2 c15_hX7_3 c15_hX8_0 c15_hX8_1 c15_hX8_2 c15_hX8_3 c15_hX9_0 c15_hX9_1 c15_hX9_2 c15_hX9_3 c15_hX11_0 c15_hX11_1 c15_hX11_2 c15_hX11_3 c15_hX14_0 c15_hX14_1 c15_hX14_2 c15_hX14_3
            obtain ⟨c16_hMo_0, c16_hMo_1, c16_hMo_2, c16_hMo_3⟩ := hMo.cells4
            obtain ⟨c16_hRo_0, c16_hRo_1, c16_hRo_2, c16_hRo_3⟩ := hRo.cells4
            obtain ⟨c16_hX7_0, c16_hX7_1, c16_hX7_2, c16_hX7_3⟩ := hX7.cells4
            obtain ⟨c16_hX8_0, c16_hX8_1, c16_hX8_2, c16_hX8_3⟩ := hX8.cells4
            obtain ⟨c16_hX9_0, c16_hX9_1, c16_hX9_2, c16_hX9_3⟩ := hX9.cells4
            obtain ⟨c16_hX11_0, c16_hX11_1, c16_hX11_2, c16_hX11_3⟩ := hX11.cells4
            obtain ⟨c16_hX14_0, c16_hX14_1, c16_hX14_2, c16_hX14_3⟩ := hX14.cells4
            by_cases hlt : k < A.length
            · obtain ⟨ada, rfl, ca⟩ := ha.at_ hlt
              obtain ⟨add, rfl, cd⟩ := hd.at_ (k := k) (by omega)
              obtain ⟨adx, rfl, cx⟩ := i1.at_ (k := k) (by omega)
              obtain ⟨ady, rfl, cy⟩ := i2.at_ (k := k) (by omega)
              have g0 : (0 : Int) ≤ (k : Int) := by omega
              have g1 : (k : Int) < (A.length : Int) := by omega
              have hq := HAT.out k hlt
              have hMk := hM _ (HID.out k)
              generalize iat A k = va at *
              generalize iat ys1 k = vd at *
              generalize iat xs1 k = vx at *
              generalize fitV (mulZ lr vd f.toNat) = by_ at *
              generalize fitE (mulZ lr vd f.toNat) = be_ at *
              go_upto_region 14 with fail
              go_region_held3 (fun w' => w'.cell? ⟨g, 0, none⟩ = some (.int .i64 lr) ∧ w'.cell? ⟨g + 1, 3, none⟩ = some (.slice (some add) A.length Cd) ∧ w'.cell? (add.add k) = some (.int .i64 vd))
                (first | go_keep | exact ⟨cellB (undrew bm) (by assumption), cellB (undrew bm) (by assumption), cellB (undrew bm) cd⟩)
                (first
                  | (go_at_call 18; (with_reducible refine (hMk _).mono ?_); rintro x wm ⟨rfl, bm⟩))
              replace bm := undrew bm
              replace ca := cellB bm ca
              replace cd := cellB bm cd
              replace cx := cellB bm cx
              replace cy := cellB bm cy
              replace hv := hv.below bm
              replace ha := ha.below bm
              replace hd := hd.below bm
              replace hMo := hMo.below bm hMo.lt
              replace hRo := hRo.below bm hRo.lt
              replace hX7 := hX7.below bm hX7.lt
              replace hX8 := hX8.below bm hX8.lt
              replace i1 := i1.below bm
              replace i2 := i2.below bm
              replace hX9 := hX9.below bm hX9.lt
              replace j1 := j1.below bm
              replace hX11 := hX11.below bm hX11.lt
              replace hz := hz.below bm
              replace o1 := o1.below bm
              replace o2 := o2.below bm
              replace hX14 := hX14.below bm hX14.lt
              replace hB := hB.trans (bm.mono hB.size)
              clear c16_hMo_0 c16_hMo_1 c16_hMo_2 c16_hMo_3 c16_hRo_0 c16_hRo_1 c16_hRo_2 c16_hRo_3 c16_hX7_0 c16_hX7_1 c16_hX7_2 c16_hX7_3 c16_hX8_0 c16_hX8_1 c16_hX8_2 c16_hX8_3 c16_hX9_0 c16_hX9_1 c16_hX9_2 c16_hX9_3 c16_hX11_0 c16_hX11_1 c16_hX11_2 c16_hX11_3 c16_hX14_0 c16_hX14_1 c16_hX14_2 c16_hX14_3
              obtain ⟨c17_hMo_0, c17_hMo_1, c17_hMo_2, c17_hMo_3⟩ := hMo.cells4
              obtain ⟨c17_hRo_0, c17_hRo_1, c17_hRo_2, c17_hRo_3⟩ := hRo.cells4
              obtain ⟨c17_hX7_0, c17_hX7_1, c17_hX7_2, c17_hX7_3⟩ := hX7.cells4
              obtain ⟨c17_hX8_0, c17_hX8_1, c17_hX8_2, c17_hX8_3⟩ := hX8.cells4
              obtain ⟨c17_hX9_0, c17_hX9_1, c17_hX9_2, c17_hX9_3⟩ := hX9.cells4
              obtain ⟨c17_hX11_0, c17_hX11_1, c17_hX11_2, c17_hX11_3⟩ := hX11.cells4
              obtain ⟨c17_hX14_0, c17_hX14_1, c17_hX14_2, c17_hX14_3⟩ := hX14.cells4
              go_upto_region 15 with fail
              go_region
              all_goals go_wp2
              go_round
              case rel => exact ⟨k + 1, by go_num, by omega, bl.trans (bm.drew.mono bl.size)⟩
              case measure => simp [intOf]; omega
            · obtain rfl : k = A.length := by omega
              by_cases he2 : e2 = 0
              · subst he2
                have hx2 : A = xs2 := (HP.out.1.2 (by first | rfl | trivial)).symm
                subst hx2
                go_wp2_with fail
                refine (same_true _ _ _ _ j1 ha).mono ?_
                rintro e w5 ⟨rfl, n5, hn5⟩
                have b5 : Below wr.heap.size wr w5 := by rw [hn5]; exact below_drewN (Below.refl _ _) n5
                clear hn5
                replace hv := hv.below b5
                replace ha := ha.below b5
                replace hd := hd.below b5
                replace hMo := hMo.below b5 hMo.lt
                replace hRo := hRo.below b5 hRo.lt
                replace hX7 := hX7.below b5 hX7.lt
                replace hX8 := hX8.below b5 hX8.lt
                replace i1 := i1.below b5
                replace i2 := i2.below b5
                replace hX9 := hX9.below b5 hX9.lt
                replace j1 := j1.below b5
                replace hX11 := hX11.below b5 hX11.lt
                replace hz := hz.below b5
                replace o1 := o1.below b5
                replace o2 := o2.below b5
                replace hX14 := hX14.below b5 hX14.lt
                replace hB := hB.trans (b5.mono hB.size)
                clear c16_hMo_0 c16_hMo_1 c16_hMo_2 c16_hMo_3 c16_hRo_0 c16_hRo_1 c16_hRo_2 c16_hRo_3 c16_hX7_0 c16_hX7_1 c16_hX7_2 c16_hX7_3 c16_hX8_0 c16_hX8_1 c16_hX8_2 c16_hX8_3 c16_hX9_0 c16_hX9_1 c16_hX9_2 c16_hX9_3 c16_hX11_0 c16_hX11_1 c16_hX11_2 c16_hX11_3 c16_hX14_0 c16_hX14_1 c16_hX14_2 c16_hX14_3
                obtain ⟨c17_hMo_0, c17_hMo_1, c17_hMo_2, c17_hMo_3⟩ := hMo.cells4
                obtain ⟨c17_hRo_0, c17_hRo_1, c17_hRo_2, c17_hRo_3⟩ := hRo.cells4
                obtain ⟨c17_hX7_0, c17_hX7_1, c17_hX7_2, c17_hX7_3⟩ := hX7.cells4
                obtain ⟨c17_hX8_0, c17_hX8_1, c17_hX8_2, c17_hX8_3⟩ := hX8.cells4
                obtain ⟨c17_hX9_0, c17_hX9_1, c17_hX9_2, c17_hX9_3⟩ := hX9.cells4
                obtain ⟨c17_hX11_0, c17_hX11_1, c17_hX11_2, c17_hX11_3⟩ := hX11.cells4
                obtain ⟨c17_hX14_0, c17_hX14_1, c17_hX14_2, c17_hX14_3⟩ := hX14.cells4
                rcases HP.out.2 with ⟨rfl, rfl, hx3, hy3⟩ | ⟨rfl, rfl⟩
                · have hx3 := hx3.symm
                  subst hx3
                  subst hy3
                  go_wp2_with fail
                  refine (hL _).mono ?_
                  rintro e w6 ⟨rfl, b6⟩
                  replace hv := hv.below b6
                  replace ha := ha.below b6
                  replace hd := hd.below b6
                  replace hMo := hMo.below b6 hMo.lt
                  replace hRo := hRo.below b6 hRo.lt
                  replace hX7 := hX7.below b6 hX7.lt
                  replace hX8 := hX8.below b6 hX8.lt
                  replace i1 := i1.below b6
                  replace i2 := i2.below b6
                  replace hX9 := hX9.below b6 hX9.lt
                  replace j1 := j1.below b6
                  replace hX11 := hX11.below b6 hX11.lt
                  replace hz := hz.below b6
                  replace o1 := o1.below b6
                  replace o2 := o2.below b6
                  replace hX14 := hX14.below b6 hX14.lt
                  replace hB := hB.trans (b6.mono hB.size)
                  clear c17_hMo_0 c17_hMo_1 c17_hMo_2 c17_hMo_3 c17_hRo_0 c17_hRo_1 c17_hRo_2 c17_hRo_3 c17_hX7_0 c17_hX7_1 c17_hX7_2 c17_hX7_3 c17_hX8_0 c17_hX8_1 c17_hX8_2 c17_hX8_3 c17_hX9_0 c17_hX9_1 c17_hX9_2 c17_hX9_3 c17_hX11_0 c17_hX11_1 c17_hX11_2 c17_hX11_3 c17_hX14_0 c17_hX14_1 c17_hX14_2 c17_hX14_3
                  obtain ⟨c18_hMo_0, c18_hMo_1, c18_hMo_2, c18_hMo_3⟩ := hMo.cells4
                  obtain ⟨c18_hRo_0, c18_hRo_1, c18_hRo_2, c18_hRo_3⟩ := hRo.cells4
                  obtain ⟨c18_hX7_0, c18_hX7_1, c18_hX7_2, c18_hX7_3⟩ := hX7.cells4
                  obtain ⟨c18_hX8_0, c18_hX8_1, c18_hX8_2, c18_hX8_3⟩ := hX8.cells4
                  obtain ⟨c18_hX9_0, c18_hX9_1, c18_hX9_2, c18_hX9_3⟩ := hX9.cells4
                  obtain ⟨c18_hX11_0, c18_hX11_1, c18_hX11_2, c18_hX11_3⟩ := hX11.cells4
                  obtain ⟨c18_hX14_0, c18_hX14_1, c18_hX14_2, c18_hX14_3⟩ := hX14.cells4
                  go_wp2_with fail
                  refine (same_true _ _ _ _ o1 ha).mono ?_
                  rintro e w7 ⟨rfl, n7, hn7⟩
                  have b7 : Below w6.heap.size w6 w7 := by rw [hn7]; exact below_drewN (Below.refl _ _) n7
                  clear hn7
                  replace hv := hv.below b7
                  replace ha := ha.below b7
                  replace hd := hd.below b7
                  replace hMo := hMo.below b7 hMo.lt
                  replace hRo := hRo.below b7 hRo.lt
                  replace hX7 := hX7.below b7 hX7.lt
                  replace hX8 := hX8.below b7 hX8.lt
                  replace i1 := i1.below b7
                  replace i2 := i2.below b7
                  replace hX9 := hX9.below b7 hX9.lt
                  replace j1 := j1.below b7
                  replace hX11 := hX11.below b7 hX11.lt
                  replace hz := hz.below b7
                  replace o1 := o1.below b7
                  replace o2 := o2.below b7
                  replace hX14 := hX14.below b7 hX14.lt
                  replace hB := hB.trans (b7.mono hB.size)
                  clear c18_hMo_0 c18_hMo_1 c18_hMo_2 c18_hMo_3 c18_hRo_0 c18_hRo_1 c18_hRo_2 c18_hRo_3 c18_hX7_0 c18_hX7_1 c18_hX7_2 c18_hX7_3 c18_hX8_0 c18_hX8_1 c18_hX8_2 c18_hX8_3 c18_hX9_0 c18_hX9_1 c18_hX9_2 c18_hX9_3 c18_hX11_0 c18_hX11_1 c18_hX11_2 c18_hX11_3 c18_hX14_0 c18_hX14_1 c18_hX14_2 c18_hX14_3
                  obtain ⟨c19_hMo_0, c19_hMo_1, c19_hMo_2, c19_hMo_3⟩ := hMo.cells4
                  obtain ⟨c19_hRo_0, c19_hRo_1, c19_hRo_2, c19_hRo_3⟩ := hRo.cells4
                  obtain ⟨c19_hX7_0, c19_hX7_1, c19_hX7_2, c19_hX7_3⟩ := hX7.cells4
                  obtain ⟨c19_hX8_0, c19_hX8_1, c19_hX8_2, c19_hX8_3⟩ := hX8.cells4
                  obtain ⟨c19_hX9_0, c19_hX9_1, c19_hX9_2, c19_hX9_3⟩ := hX9.cells4
                  obtain ⟨c19_hX11_0, c19_hX11_1, c19_hX11_2, c19_hX11_3⟩ := hX11.cells4
                  obtain ⟨c19_hX14_0, c19_hX14_1, c19_hX14_2, c19_hX14_3⟩ := hX14.cells4
                  rw [List.length_replicate] at o2 hX14
                  clear c19_hMo_0 c19_hMo_1 c19_hMo_2 c19_hMo_3 c19_hRo_0 c19_hRo_1 c19_hRo_2 c19_hRo_3 c19_hX7_0 c19_hX7_1 c19_hX7_2 c19_hX7_3 c19_hX8_0 c19_hX8_1 c19_hX8_2 c19_hX8_3 c19_hX9_0 c19_hX9_1 c19_hX9_2 c19_hX9_3 c19_hX11_0 c19_hX11_1 c19_hX11_2 c19_hX11_3 c19_hX14_0 c19_hX14_1 c19_hX14_2 c19_hX14_3
                  obtain ⟨c20_hMo_0, c20_hMo_1, c20_hMo_2, c20_hMo_3⟩ := hMo.cells4
                  obtain ⟨c20_hRo_0, c20_hRo_1, c20_hRo_2, c20_hRo_3⟩ := hRo.cells4
                  obtain ⟨c20_hX7_0, c20_hX7_1, c20_hX7_2, c20_hX7_3⟩ := hX7.cells4
                  obtain ⟨c20_hX8_0, c20_hX8_1, c20_hX8_2, c20_hX8_3⟩ := hX8.cells4
                  obtain ⟨c20_hX9_0, c20_hX9_1, c20_hX9_2, c20_hX9_3⟩ := hX9.cells4
                  obtain ⟨c20_hX11_0, c20_hX11_1, c20_hX11_2, c20_hX11_3⟩ := hX11.cells4
                  obtain ⟨c20_hX14_0, c20_hX14_1, c20_hX14_2, c20_hX14_3⟩ := hX14.cells4
                  go_wp2_with fail
                  refine (same_true _ _ _ _ o2 hz).mono ?_
                  rintro e w8 ⟨rfl, n8, hn8⟩
                  have b8 : Below w7.heap.size w7 w8 := by rw [hn8]; exact below_drewN (Below.refl _ _) n8
                  clear hn8
                  replace hv := hv.below b8
                  replace ha := ha.below b8
                  replace hd := hd.below b8
                  replace hMo := hMo.below b8 hMo.lt
                  replace hRo := hRo.below b8 hRo.lt
                  replace hX7 := hX7.below b8 hX7.lt
                  replace hX8 := hX8.below b8 hX8.lt
                  replace i1 := i1.below b8
                  replace i2 := i2.below b8
                  replace hX9 := hX9.below b8 hX9.lt
                  replace j1 := j1.below b8
                  replace hX11 := hX11.below b8 hX11.lt
                  replace hz := hz.below b8
                  replace o1 := o1.below b8
                  replace o2 := o2.below b8
                  replace hX14 := hX14.below b8 hX14.lt
                  replace hB := hB.trans (b8.mono hB.size)
                  clear c20_hMo_0 c20_hMo_1 c20_hMo_2 c20_hMo_3 c20_hRo_0 c20_hRo_1 c20_hRo_2 c20_hRo_3 c20_hX7_0 c20_hX7_1 c20_hX7_2 c20_hX7_3 c20_hX8_0 c20_hX8_1 c20_hX8_2 c20_hX8_3 c20_hX9_0 c20_hX9_1 c20_hX9_2 c20_hX9_3 c20_hX11_0 c20_hX11_1 c20_hX11_2 c20_hX11_3 c20_hX14_0 c20_hX14_1 c20_hX14_2 c20_hX14_3
                  obtain ⟨c21_hMo_0, c21_hMo_1, c21_hMo_2, c21_hMo_3⟩ := hMo.cells4
                  obtain ⟨c21_hRo_0, c21_hRo_1, c21_hRo_2, c21_hRo_3⟩ := hRo.cells4
                  obtain ⟨c21_hX7_0, c21_hX7_1, c21_hX7_2, c21_hX7_3⟩ := hX7.cells4
                  obtain ⟨c21_hX8_0, c21_hX8_1, c21_hX8_2, c21_hX8_3⟩ := hX8.cells4
                  obtain ⟨c21_hX9_0, c21_hX9_1, c21_hX9_2, c21_hX9_3⟩ := hX9.cells4
                  obtain ⟨c21_hX11_0, c21_hX11_1, c21_hX11_2, c21_hX11_3⟩ := hX11.cells4
                  obtain ⟨c21_hX14_0, c21_hX14_1, c21_hX14_2, c21_hX14_3⟩ := hX14.cells4
                  go_wp2_with fail
                  refine (hRt _).mono ?_
                  rintro e w9 ⟨rfl, b9⟩
                  replace hv := hv.below b9
                  replace ha := ha.below b9
                  replace hd := hd.below b9
                  replace hMo := hMo.below b9 hMo.lt
                  replace hRo := hRo.below b9 hRo.lt
                  replace hX7 := hX7.below b9 hX7.lt
                  replace hX8 := hX8.below b9 hX8.lt
                  replace i1 := i1.below b9
                  replace i2 := i2.below b9
                  replace hX9 := hX9.below b9 hX9.lt
                  replace j1 := j1.below b9
                  replace hX11 := hX11.below b9 hX11.lt
                  replace hz := hz.below b9
                  replace o1 := o1.below b9
                  replace o2 := o2.below b9
                  replace hX14 := hX14.below b9 hX14.lt
                  replace hB := hB.trans (b9.mono hB.size)
                  clear c21_hMo_0 c21_hMo_1 c21_hMo_2 c21_hMo_3 c21_hRo_0 c21_hRo_1 c21_hRo_2 c21_hRo_3 c21_hX7_0 c21_hX7_1 c21_hX7_2 c21_hX7_3 c21_hX8_0 c21_hX8_1 c21_hX8_2 c21_hX8_3 c21_hX9_0 c21_hX9_1 c21_hX9_2 c21_hX9_3 c21_hX11_0 c21_hX11_1 c21_hX11_2 c21_hX11_3 c21_hX14_0 c21_hX14_1 c21_hX14_2 c21_hX14_3
                  obtain ⟨c22_hMo_0, c22_hMo_1, c22_hMo_2, c22_hMo_3⟩ := hMo.cells4
                  obtain ⟨c22_hRo_0, c22_hRo_1, c22_hRo_2, c22_hRo_3⟩ := hRo.cells4
                  obtain ⟨c22_hX7_0, c22_hX7_1, c22_hX7_2, c22_hX7_3⟩ := hX7.cells4
                  obtain ⟨c22_hX8_0, c22_hX8_1, c22_hX8_2, c22_hX8_3⟩ := hX8.cells4
                  obtain ⟨c22_hX9_0, c22_hX9_1, c22_hX9_2, c22_hX9_3⟩ := hX9.cells4
                  obtain ⟨c22_hX11_0, c22_hX11_1, c22_hX11_2, c22_hX11_3⟩ := hX11.cells4
                  obtain ⟨c22_hX14_0, c22_hX14_1, c22_hX14_2, c22_hX14_3⟩ := hX14.cells4
                  go_wp2
                  go_ret
                  exact ⟨rfl, hB⟩
                · go_wp2_with fail
                  refine (hL _).mono ?_
                  rintro e w6 ⟨rfl, b6⟩
                  replace hv := hv.below b6
                  replace ha := ha.below b6
                  replace hd := hd.below b6
                  replace hMo := hMo.below b6 hMo.lt
                  replace hRo := hRo.below b6 hRo.lt
                  replace hX7 := hX7.below b6 hX7.lt
                  replace hX8 := hX8.below b6 hX8.lt
                  replace i1 := i1.below b6
                  replace i2 := i2.below b6
                  replace hX9 := hX9.below b6 hX9.lt
                  replace j1 := j1.below b6
                  replace hX11 := hX11.below b6 hX11.lt
                  replace hz := hz.below b6
                  replace o1 := o1.below b6
                  replace o2 := o2.below b6
                  replace hX14 := hX14.below b6 hX14.lt
                  replace hB := hB.trans (b6.mono hB.size)
                  clear c17_hMo_0 c17_hMo_1 c17_hMo_2 c17_hMo_3 c17_hRo_0 c17_hRo_1 c17_hRo_2 c17_hRo_3 c17_hX7_0 c17_hX7_1 c17_hX7_2 c17_hX7_3 c17_hX8_0 c17_hX8_1 c17_hX8_2 c17_hX8_3 c17_hX9_0 c17_hX9_1 c17_hX9_2 c17_hX9_3 c17_hX11_0 c17_hX11_1 c17_hX11_2 c17_hX11_3 c17_hX14_0 c17_hX14_1 c17_hX14_2 c17_hX14_3
                  obtain ⟨c18_hMo_0, c18_hMo_1, c18_hMo_2, c18_hMo_3⟩ := hMo.cells4
                  obtain ⟨c18_hRo_0, c18_hRo_1, c18_hRo_2, c18_hRo_3⟩ := hRo.cells4
                  obtain ⟨c18_hX7_0, c18_hX7_1, c18_hX7_2, c18_hX7_3⟩ := hX7.cells4
                  obtain ⟨c18_hX8_0, c18_hX8_1, c18_hX8_2, c18_hX8_3⟩ := hX8.cells4
                  obtain ⟨c18_hX9_0, c18_hX9_1, c18_hX9_2, c18_hX9_3⟩ := hX9.cells4
                  obtain ⟨c18_hX11_0, c18_hX11_1, c18_hX11_2, c18_hX11_3⟩ := hX11.cells4
                  obtain ⟨c18_hX14_0, c18_hX14_1, c18_hX14_2, c18_hX14_3⟩ := hX14.cells4
                  go_wp2_with fail
                  refine (hRt _).mono ?_
                  rintro e w7 ⟨rfl, b7⟩
                  replace hv := hv.below b7
                  replace ha := ha.below b7
                  replace hd := hd.below b7
                  replace hMo := hMo.below b7 hMo.lt
                  replace hRo := hRo.below b7 hRo.lt
                  replace hX7 := hX7.below b7 hX7.lt
                  replace hX8 := hX8.below b7 hX8.lt
                  replace i1 := i1.below b7
                  replace i2 := i2.below b7
                  replace hX9 := hX9.below b7 hX9.lt
                  replace j1 := j1.below b7
                  replace hX11 := hX11.below b7 hX11.lt
                  replace hz := hz.below b7
                  replace o1 := o1.below b7
                  replace o2 := o2.below b7
                  replace hX14 := hX14.below b7 hX14.lt
                  replace hB := hB.trans (b7.mono hB.size)
                  clear c18_hMo_0 c18_hMo_1 c18_hMo_2 c18_hMo_3 c18_hRo_0 c18_hRo_1 c18_hRo_2 c18_hRo_3 c18_hX7_0 c18_hX7_1 c18_hX7_2 c18_hX7_3 c18_hX8_0 c18_hX8_1 c18_hX8_2 c18_hX8_3 c18_hX9_0 c18_hX9_1 c18_hX9_2 c18_hX9_3 c18_hX11_0 c18_hX11_1 c18_hX11_2 c18_hX11_3 c18_hX14_0 c18_hX14_1 c18_hX14_2 c18_hX14_3
                  obtain ⟨c19_hMo_0, c19_hMo_1, c19_hMo_2, c19_hMo_3⟩ := hMo.cells4
                  obtain ⟨c19_hRo_0, c19_hRo_1, c19_hRo_2, c19_hRo_3⟩ := hRo.cells4
                  obtain ⟨c19_hX7_0, c19_hX7_1, c19_hX7_2, c19_hX7_3⟩ := hX7.cells4
                  obtain ⟨c19_hX8_0, c19_hX8_1, c19_hX8_2, c19_hX8_3⟩ := hX8.cells4
                  obtain ⟨c19_hX9_0, c19_hX9_1, c19_hX9_2, c19_hX9_3⟩ := hX9.cells4
                  obtain ⟨c19_hX11_0, c19_hX11_1, c19_hX11_2, c19_hX11_3⟩ := hX11.cells4
                  obtain ⟨c19_hX14_0, c19_hX14_1, c19_hX14_2, c19_hX14_3⟩ := hX14.cells4
                  go_wp2
                  go_ret
                  exact ⟨rfl, hB⟩
              · rcases HP.out.2 with ⟨rfl, rfl, hx3, hy3⟩ | ⟨rfl, rfl⟩
                · have hx3 := hx3.symm
                  subst hx3
                  subst hy3
                  go_wp2_with fail
                  refine (hL _).mono ?_
                  rintro e w5 ⟨rfl, b5⟩
                  replace hv := hv.below b5
                  replace ha := ha.below b5
                  replace hd := hd.below b5
                  replace hMo := hMo.below b5 hMo.lt
                  replace hRo := hRo.below b5 hRo.lt
                  replace hX7 := hX7.below b5 hX7.lt
                  replace hX8 := hX8.below b5 hX8.lt
                  replace i1 := i1.below b5
                  replace i2 := i2.below b5
                  replace hX9 := hX9.below b5 hX9.lt
                  replace j1 := j1.below b5
                  replace hX11 := hX11.below b5 hX11.lt
                  replace hz := hz.below b5
                  replace o1 := o1.below b5
                  replace o2 := o2.below b5
                  replace hX14 := hX14.below b5 hX14.lt
                  replace hB := hB.trans (b5.mono hB.size)
                  clear c16_hMo_0 c16_hMo_1 c16_hMo_2 c16_hMo_3 c16_hRo_0 c16_hRo_1 c16_hRo_2 c16_hRo_3 c16_hX7_0 c16_hX7_1 c16_hX7_2 c16_hX7_3 c16_hX8_0 c16_hX8_1 c16_hX8_2 c16_hX8_3 c16_hX9_0 c16_hX9_1 c16_hX9_2 c16_hX9_3 c16_hX11_0 c16_hX11_1 c16_hX11_2 c16_hX11_3 c16_hX14_0 c16_hX14_1 c16_hX14_2 c16_hX14_3
                  obtain ⟨c17_hMo_0, c17_hMo_1, c17_hMo_2, c17_hMo_3⟩ := hMo.cells4
                  obtain ⟨c17_hRo_0, c17_hRo_1, c17_hRo_2, c17_hRo_3⟩ := hRo.cells4
                  obtain ⟨c17_hX7_0, c17_hX7_1, c17_hX7_2, c17_hX7_3⟩ := hX7.cells4
                  obtain ⟨c17_hX8_0, c17_hX8_1, c17_hX8_2, c17_hX8_3⟩ := hX8.cells4
                  obtain ⟨c17_hX9_0, c17_hX9_1, c17_hX9_2, c17_hX9_3⟩ := hX9.cells4
                  obtain ⟨c17_hX11_0, c17_hX11_1, c17_hX11_2, c17_hX11_3⟩ := hX11.cells4
                  obtain ⟨c17_hX14_0, c17_hX14_1, c17_hX14_2, c17_hX14_3⟩ := hX14.cells4
                  go_wp2_with fail
                  refine (same_true _ _ _ _ o1 ha).mono ?_
                  rintro e w6 ⟨rfl, n6, hn6⟩
                  have b6 : Below w5.heap.size w5 w6 := by rw [hn6]; exact below_drewN (Below.refl _ _) n6
                  clear hn6
                  replace hv := hv.below b6
                  replace ha := ha.below b6
                  replace hd := hd.below b6
                  replace hMo := hMo.below b6 hMo.lt
                  replace hRo := hRo.below b6 hRo.lt
                  replace hX7 := hX7.below b6 hX7.lt
                  replace hX8 := hX8.below b6 hX8.lt
                  replace i1 := i1.below b6
                  replace i2 := i2.below b6
                  replace hX9 := hX9.below b6 hX9.lt
                  replace j1 := j1.below b6
                  replace hX11 := hX11.below b6 hX11.lt
                  replace hz := hz.below b6
                  replace o1 := o1.below b6
                  replace o2 := o2.below b6
                  replace hX14 := hX14.below b6 hX14.lt
                  replace hB := hB.trans (b6.mono hB.size)
                  clear c17_hMo_0 c17_hMo_1 c17_hMo_2 c17_hMo_3 c17_hRo_0 c17_hRo_1 c17_hRo_2 c17_hRo_3 c17_hX7_0 c17_hX7_1 c17_hX7_2 c17_hX7_3 c17_hX8_0 c17_hX8_1 c17_hX8_2 c17_hX8_3 c17_hX9_0 c17_hX9_1 c17_hX9_2 c17_hX9_3 c17_hX11_0 c17_hX11_1 c17_hX11_2 c17_hX11_3 c17_hX14_0 c17_hX14_1 c17_hX14_2 c17_hX14_3
                  obtain ⟨c18_hMo_0, c18_hMo_1, c18_hMo_2, c18_hMo_3⟩ := hMo.cells4
                  obtain ⟨c18_hRo_0, c18_hRo_1, c18_hRo_2, c18_hRo_3⟩ := hRo.cells4
                  obtain ⟨c18_hX7_0, c18_hX7_1, c18_hX7_2, c18_hX7_3⟩ := hX7.cells4
                  obtain ⟨c18_hX8_0, c18_hX8_1, c18_hX8_2, c18_hX8_3⟩ := hX8.cells4
                  obtain ⟨c18_hX9_0, c18_hX9_1, c18_hX9_2, c18_hX9_3⟩ := hX9.cells4
                  obtain ⟨c18_hX11_0, c18_hX11_1, c18_hX11_2, c18_hX11_3⟩ := hX11.cells4
                  obtain ⟨c18_hX14_0, c18_hX14_1, c18_hX14_2, c18_hX14_3⟩ := hX14.cells4
                  rw [List.length_replicate] at o2 hX14
                  clear c18_hMo_0 c18_hMo_1 c18_hMo_2 c18_hMo_3 c18_hRo_0 c18_hRo_1 c18_hRo_2 c18_hRo_3 c18_hX7_0 c18_hX7_1 c18_hX7_2 c18_hX7_3 c18_hX8_0 c18_hX8_1 c18_hX8_2 c18_hX8_3 c18_hX9_0 c18_hX9_1 c18_hX9_2 c18_hX9_3 c18_hX11_0 c18_hX11_1 c18_hX11_2 c18_hX11_3 c18_hX14_0 c18_hX14_1 c18_hX14_2 c18_hX14_3
                  obtain ⟨c19_hMo_0, c19_hMo_1, c19_hMo_2, c19_hMo_3⟩ := hMo.cells4
                  obtain ⟨c19_hRo_0, c19_hRo_1, c19_hRo_2, c19_hRo_3⟩ := hRo.cells4
                  obtain ⟨c19_hX7_0, c19_hX7_1, c19_hX7_2, c19_hX7_3⟩ := hX7.cells4
                  obtain ⟨c19_hX8_0, c19_hX8_1, c19_hX8_2, c19_hX8_3⟩ := hX8.cells4
                  obtain ⟨c19_hX9_0, c19_hX9_1, c19_hX9_2, c19_hX9_3⟩ := hX9.cells4
                  obtain ⟨c19_hX11_0, c19_hX11_1, c19_hX11_2, c19_hX11_3⟩ := hX11.cells4
                  obtain ⟨c19_hX14_0, c19_hX14_1, c19_hX14_2, c19_hX14_3⟩ := hX14.cells4
                  go_wp2_with fail
                  refine (same_true _ _ _ _ o2 hz).mono ?_
                  rintro e w7 ⟨rfl, n7, hn7⟩
                  have b7 : Below w6.heap.size w6 w7 := by rw [hn7]; exact below_drewN (Below.refl _ _) n7
                  clear hn7
                  replace hv := hv.below b7
                  replace ha := ha.below b7
                  replace hd := hd.below b7
                  replace hMo := hMo.below b7 hMo.lt
                  replace hRo := hRo.below b7 hRo.lt
                  replace hX7 := hX7.below b7 hX7.lt
                  replace hX8 := hX8.below b7 hX8.lt
                  replace i1 := i1.below b7
                  replace i2 := i2.below b7
                  replace hX9 := hX9.below b7 hX9.lt
                  replace j1 := j1.below b7
                  replace hX11 := hX11.below b7 hX11.lt
                  replace hz := hz.below b7
                  replace o1 := o1.below b7
                  replace o2 := o2.below b7
                  replace hX14 := hX14.below b7 hX14.lt
                  replace hB := hB.trans (b7.mono hB.size)
                  clear c19_hMo_0 c19_hMo_1 c19_hMo_2 c19_hMo_3 c19_hRo_0 c19_hRo_1 c19_hRo_2 c19_hRo_3 c19_hX7_0 c19_hX7_1 c19_hX7_2 c19_hX7_3 c19_hX8_0 c19_hX8_1 c19_hX8_2 c19_hX8_3 c19_hX9_0 c19_hX9_1 c19_hX9_2 c19_hX9_3 c19_hX11_0 c19_hX11_1 c19_hX11_2 c19_hX11_3 c19_hX14_0 c19_hX14_1 c19_hX14_2 c19_hX14_3
                  obtain ⟨c20_hMo_0, c20_hMo_1, c20_hMo_2, c20_hMo_3⟩ := hMo.cells4
                  obtain ⟨c20_hRo_0, c20_hRo_1, c20_hRo_2, c20_hRo_3⟩ := hRo.cells4
                  obtain ⟨c20_hX7_0, c20_hX7_1, c20_hX7_2, c20_hX7_3⟩ := hX7.cells4
                  obtain ⟨c20_hX8_0, c20_hX8_1, c20_hX8_2, c20_hX8_3⟩ := hX8.cells4
                  obtain ⟨c20_hX9_0, c20_hX9_1, c20_hX9_2, c20_hX9_3⟩ := hX9.cells4
                  obtain ⟨c20_hX11_0, c20_hX11_1, c20_hX11_2, c20_hX11_3⟩ := hX11.cells4
                  obtain ⟨c20_hX14_0, c20_hX14_1, c20_hX14_2, c20_hX14_3⟩ := hX14.cells4
                  go_wp2_with fail
                  refine (hRt _).mono ?_
                  rintro e w8 ⟨rfl, b8⟩
                  replace hv := hv.below b8
                  replace ha := ha.below b8
                  replace hd := hd.below b8
                  replace hMo := hMo.below b8 hMo.lt
                  replace hRo := hRo.below b8 hRo.lt
                  replace hX7 := hX7.below b8 hX7.lt
                  replace hX8 := hX8.below b8 hX8.lt
                  replace i1 := i1.below b8
                  replace i2 := i2.below b8
                  replace hX9 := hX9.below b8 hX9.lt
                  replace j1 := j1.below b8
                  replace hX11 := hX11.below b8 hX11.lt
                  replace hz := hz.below b8
                  replace o1 := o1.below b8
                  replace o2 := o2.below b8
                  replace hX14 := hX14.below b8 hX14.lt
                  replace hB := hB.trans (b8.mono hB.size)
                  clear c20_hMo_0 c20_hMo_1 c20_hMo_2 c20_hMo_3 c20_hRo_0 c20_hRo_1 c20_hRo_2 c20_hRo_3 c20_hX7_0 c20_hX7_1 c20_hX7_2 c20_hX7_3 c20_hX8_0 c20_hX8_1 c20_hX8_2 c20_hX8_3 c20_hX9_0 c20_hX9_1 c20_hX9_2 c20_hX9_3 c20_hX11_0 c20_hX11_1 c20_hX11_2 c20_hX11_3 c20_hX14_0 c20_hX14_1 c20_hX14_2 c20_hX14_3
                  obtain ⟨c21_hMo_0, c21_hMo_1, c21_hMo_2, c21_hMo_3⟩ := hMo.cells4
                  obtain ⟨c21_hRo_0, c21_hRo_1, c21_hRo_2, c21_hRo_3⟩ := hRo.cells4
                  obtain ⟨c21_hX7_0, c21_hX7_1, c21_hX7_2, c21_hX7_3⟩ := hX7.cells4
                  obtain ⟨c21_hX8_0, c21_hX8_1, c21_hX8_2, c21_hX8_3⟩ := hX8.cells4
                  obtain ⟨c21_hX9_0, c21_hX9_1, c21_hX9_2, c21_hX9_3⟩ := hX9.cells4
                  obtain ⟨c21_hX11_0, c21_hX11_1, c21_hX11_2, c21_hX11_3⟩ := hX11.cells4
                  obtain ⟨c21_hX14_0, c21_hX14_1, c21_hX14_2, c21_hX14_3⟩ := hX14.cells4
                  go_wp2
                  go_ret
                  exact ⟨rfl, hB⟩
                · go_wp2_with fail
                  refine (hL _).mono ?_
                  rintro e w5 ⟨rfl, b5⟩
                  replace hv := hv.below b5
                  replace ha := ha.below b5
                  replace hd := hd.below b5
                  replace hMo := hMo.below b5 hMo.lt
                  replace hRo := hRo.below b5 hRo.lt
                  replace hX7 := hX7.below b5 hX7.lt
                  replace hX8 := hX8.below b5 hX8.lt
                  replace i1 := i1.below b5
                  replace i2 := i2.below b5
                  replace hX9 := hX9.below b5 hX9.lt
                  replace j1 := j1.below b5
                  replace hX11 := hX11.below b5 hX11.lt
                  replace hz := hz.below b5
                  replace o1 := o1.below b5
                  replace o2 := o2.below b5
                  replace hX14 := hX14.below b5 hX14.lt
                  replace hB := hB.trans (b5.mono hB.size)
                  clear c16_hMo_0 c16_hMo_1 c16_hMo_2 c16_hMo_3 c16_hRo_0 c16_hRo_1 c16_hRo_2 c16_hRo_3 c16_hX7_0 c16_hX7_1 c16_hX7_2 c16_hX7_3 c16_hX8_0 c16_hX8_1 c16_hX8_2 c16_hX8_3 c16_hX9_0 c16_hX9_1 c16_hX9_2 c16_hX9_3 c16_hX11_0 c16_hX11_1 c16_hX11_2 c16_hX11_3 c16_hX14_0 c16_hX14_1 c16_hX14_2 c16_hX14_3
                  obtain ⟨c17_hMo_0, c17_hMo_1, c17_hMo_2, c17_hMo_3⟩ := hMo.cells4
                  obtain ⟨c17_hRo_0, c17_hRo_1, c17_hRo_2, c17_hRo_3⟩ := hRo.cells4
                  obtain ⟨c17_hX7_0, c17_hX7_1, c17_hX7_2, c17_hX7_3⟩ := hX7.cells4
                  obtain ⟨c17_hX8_0, c17_hX8_1, c17_hX8_2, c17_hX8_3⟩ := hX8.cells4
                  obtain ⟨c17_hX9_0, c17_hX9_1, c17_hX9_2, c17_hX9_3⟩ := hX9.cells4
                  obtain ⟨c17_hX11_0, c17_hX11_1, c17_hX11_2, c17_hX11_3⟩ := hX11.cells4
                  obtain ⟨c17_hX14_0, c17_hX14_1, c17_hX14_2, c17_hX14_3⟩ := hX14.cells4
                  go_wp2_with fail
                  refine (hRt _).mono ?_
                  rintro e w6 ⟨rfl, b6⟩
                  replace hv := hv.below b6
                  replace ha := ha.below b6
                  replace hd := hd.below b6
                  replace hMo := hMo.below b6 hMo.lt
                  replace hRo := hRo.below b6 hRo.lt
                  replace hX7 := hX7.below b6 hX7.lt
                  replace hX8 := hX8.below b6 hX8.lt
                  replace i1 := i1.below b6
                  replace i2 := i2.below b6
                  replace hX9 := hX9.below b6 hX9.lt
                  replace j1 := j1.below b6
                  replace hX11 := hX11.below b6 hX11.lt
                  replace hz := hz.below b6
                  replace o1 := o1.below b6
                  replace o2 := o2.below b6
                  replace hX14 := hX14.below b6 hX14.lt
                  replace hB := hB.trans (b6.mono hB.size)
                  clear c17_hMo_0 c17_hMo_1 c17_hMo_2 c17_hMo_3 c17_hRo_0 c17_hRo_1 c17_hRo_2 c17_hRo_3 c17_hX7_0 c17_hX7_1 c17_hX7_2 c17_hX7_3 c17_hX8_0 c17_hX8_1 c17_hX8_2 c17_hX8_3 c17_hX9_0 c17_hX9_1 c17_hX9_2 c17_hX9_3 c17_hX11_0 c17_hX11_1 c17_hX11_2 c17_hX11_3 c17_hX14_0 c17_hX14_1 c17_hX14_2 c17_hX14_3
                  obtain ⟨c18_hMo_0, c18_hMo_1, c18_hMo_2, c18_hMo_3⟩ := hMo.cells4
                  obtain ⟨c18_hRo_0, c18_hRo_1, c18_hRo_2, c18_hRo_3⟩ := hRo.cells4
                  obtain ⟨c18_hX7_0, c18_hX7_1, c18_hX7_2, c18_hX7_3⟩ := hX7.cells4
                  obtain ⟨c18_hX8_0, c18_hX8_1, c18_hX8_2, c18_hX8_3⟩ := hX8.cells4
                  obtain ⟨c18_hX9_0, c18_hX9_1, c18_hX9_2, c18_hX9_3⟩ := hX9.cells4
                  obtain ⟨c18_hX11_0, c18_hX11_1, c18_hX11_2, c18_hX11_3⟩ := hX11.cells4
                  obtain ⟨c18_hX14_0, c18_hX14_1, c18_hX14_2, c18_hX14_3⟩ := hX14.cells4
                  go_wp2
                  go_ret
                  exact ⟨rfl, hB⟩
        · by_cases he2 : e2 = 0
          · subst he2
            have hx2 : A = xs2 := (HP.out.1.2 (by first | rfl | trivial)).symm
            subst hx2
            go_wp2_with fail
            refine (same_true _ _ _ _ j1 ha).mono ?_
            rintro e w5 ⟨rfl, n5, hn5⟩
            have b5 : Below V4.heap.size V4 w5 := by rw [hn5]; exact below_drewN (Below.refl _ _) n5
            clear hn5
            replace hv := hv.below b5
            replace ha := ha.below b5
            replace hd := hd.below b5
            replace hMo := hMo.below b5 hMo.lt
            replace hRo := hRo.below b5 hRo.lt
            replace hX7 := hX7.below b5 hX7.lt
            replace hX8 := hX8.below b5 hX8.lt
            replace i1 := i1.below b5
            replace i2 := i2.below b5
            replace hX9 := hX9.below b5 hX9.lt
            replace j1 := j1.below b5
            replace hX11 := hX11.below b5 hX11.lt
            replace hz := hz.below b5
            replace o1 := o1.below b5
            replace o2 := o2.below b5
            replace hX14 := hX14.below b5 hX14.lt
            replace hB := hB.trans (b5.mono hB.size)
            clear c14_hMo_0 c14_hMo_1 c14_hMo_2 c14_hMo_3 c14_hRo_0 c14_hRo_1 c14_hRo_2 c14_hRo_3 c14_hX7_0 c14_hX7_1 c14_hX7_2 c14_hX7_3 c14_hX8_0 c14_hX8_1 c14_hX8_2 c14_hX8_3 c14_hX9_0 c14_hX9_1 c14_hX9_2 c14_hX9_3 c14_hX11_0 c14_hX11_1 c14_hX11_2 c14_hX11_3 c14_hX14_0 c14_hX14_1 c14_hX14_2 c14_hX14_3
            obtain ⟨c15_hMo_0, c15_hMo_1, c15_hMo_2, c15_hMo_3⟩ := hMo.cells4
            obtain ⟨c15_hRo_0, c15_hRo_1, c15_hRo_2, c15_hRo_3⟩ := hRo.cells4
            obtain ⟨c15_hX7_0, c15_hX7_1, c15_hX7_2, c15_hX7_3⟩ := hX7.cells4
            obtain ⟨c15_hX8_0, c15_hX8_1, c15_hX8_2, c15_hX8_3⟩ := hX8.cells4
            obtain ⟨c15_hX9_0, c15_hX9_1, c15_hX9_2, c15_hX9_3⟩ := hX9.cells4
            obtain ⟨c15_hX11_0, c15_hX11_1, c15_hX11_2, c15_hX11_3⟩ := hX11.cells4
            obtain ⟨c15_hX14_0, c15_hX14_1, c15_hX14_2, c15_hX14_3⟩ := hX14.cells4
            rcases HP.out.2 with ⟨rfl, rfl, hx3, hy3⟩ | ⟨rfl, rfl⟩
            · have hx3 := hx3.symm
              subst hx3
              subst hy3
              go_wp2_with fail
              refine (hL _).mono ?_
              rintro e w6 ⟨rfl, b6⟩
              replace hv := hv.below b6
              replace ha := ha.below b6
              replace hd := hd.below b6
              replace hMo := hMo.below b6 hMo.lt
              replace hRo := hRo.below b6 hRo.lt
              replace hX7 := hX7.below b6 hX7.lt
              replace hX8 := hX8.below b6 hX8.lt
              replace i1 := i1.below b6
              replace i2 := i2.below b6
              replace hX9 := hX9.below b6 hX9.lt
              replace j1 := j1.below b6
              replace hX11 := hX11.below b6 hX11.lt
              replace hz := hz.below b6
              replace o1 := o1.below b6
              replace o2 := o2.below b6
              replace hX14 := hX14.below b6 hX14.lt
              replace hB := hB.trans (b6.mono hB.size)
              clear c15_hMo_0 c15_hMo_1 c15_hMo_2 c15_hMo_3 c15_hRo_0 c15_hRo_1 c15_hRo_2 c15_hRo_3 c15_hX7_0 c15_hX7_1 c15_hX7_2 c15_hX7_3 c15_hX8_0 c15_hX8_1 c15_hX8_2 c15_hX8_3 c15_hX9_0 c15_hX9_1 c15_hX9_2 c15_hX9_3 c15_hX11_0 c15_hX11_1 c15_hX11_2 c15_hX11_3 c15_hX14_0 c15_hX14_1 c15_hX14_2 c15_hX14_3
              obtain ⟨c16_hMo_0, c16_hMo_1, c16_hMo_2, c16_hMo_3⟩ := hMo.cells4
              obtain ⟨c16_hRo_0, c16_hRo_1, c16_hRo_2, c16_hRo_3⟩ := hRo.cells4
              obtain ⟨c16_hX7_0, c16_hX7_1, c16_hX7_2, c16_hX7_3⟩ := hX7.cells4
              obtain ⟨c16_hX8_0, c16_hX8_1, c16_hX8_2, c16_hX8_3⟩ := hX8.cells4
              obtain ⟨c16_hX9_0, c16_hX9_1, c16_hX9_2, c16_hX9_3⟩ := hX9.cells4
              obtain ⟨c16_hX11_0, c16_hX11_1, c16_hX11_2, c16_hX11_3⟩ := hX11.cells4
              obtain ⟨c16_hX14_0, c16_hX14_1, c16_hX14_2, c16_hX14_3⟩ := hX14.cells4
              go_wp2_with fail
              refine (same_true _ _ _ _ o1 ha).mono ?_
              rintro e w7 ⟨rfl, n7, hn7⟩
              have b7 : Below w6.heap.size w6 w7 := by rw [hn7]; exact below_drewN (Below.refl _ _) n7
              clear hn7
              replace hv := hv.below b7
              replace ha := ha.below b7
              replace hd := hd.below b7
              replace hMo := hMo.below b7 hMo.lt
              replace hRo := hRo.below b7 hRo.lt
              replace hX7 := hX7.below b7 hX7.lt
              replace hX8 := hX8.below b7 hX8.lt
              replace i1 := i1.below b7
              replace i2 := i2.below b7
              replace hX9 := hX9.below b7 hX9.lt
              replace j1 := j1.below b7
              replace hX11 := hX11.below b7 hX11.lt
              replace hz := hz.below b7
              replace o1 := o1.below b7
              replace o2 := o2.below b7
              replace hX14 := hX14.below b7 hX14.lt
              replace hB := hB.trans (b7.mono hB.size)
              clear c16_hMo_0 c16_hMo_1 c16_hMo_2 c16_hMo_3 c16_hRo_0 c16_hRo_1 c16_hRo_2 c16_hRo_3 c16_hX7_0 c16_hX7_1 c16_hX7_2 c16_hX7_3 c16_hX8_0 c16_hX8_1 c16_hX8_2 c16_hX8_3 c16_hX9_0 c16_hX9_1 c16_hX9_2 c16_hX9_3 c16_hX11_0 c16_hX11_1 c16_hX11_2 c16_hX11_3 c16_hX14_0 c16_hX14_1 c16_hX14_2 c16_hX14_3
              obtain ⟨c17_hMo_0, c17_hMo_1, c17_hMo_2, c17_hMo_3⟩ := hMo.cells4
              obtain ⟨c17_hRo_0, c17_hRo_1, c17_hRo_2, c17_hRo_3⟩ := hRo.cells4
              obtain ⟨c17_hX7_0, c17_hX7_1, c17_hX7_2, c17_hX7_3⟩ := hX7.cells4
              obtain ⟨c17_hX8_0, c17_hX8_1, c17_hX8_2, c17_hX8_3⟩ := hX8.cells4
              obtain ⟨c17_hX9_0, c17_hX9_1, c17_hX9_2, c17_hX9_3⟩ := hX9.cells4
              obtain ⟨c17_hX11_0, c17_hX11_1, c17_hX11_2, c17_hX11_3⟩ := hX11.cells4
              obtain ⟨c17_hX14_0, c17_hX14_1, c17_hX14_2, c17_hX14_3⟩ := hX14.cells4
              rw [List.length_replicate] at o2 hX14
              clear c17_hMo_0 c17_hMo_1 c17_hMo_2 c17_hMo_3 c17_hRo_0 c17_hRo_1 c17_hRo_2 c17_hRo_3 c17_hX7_0 c17_hX7_1 c17_hX7_2 c17_hX7_3 c17_hX8_0 c17_hX8_1 c17_hX8_2 c17_hX8_3 c17_hX9_0 c17_hX9_1 c17_hX9_2 c17_hX9_3 c17_hX11_0 c17_hX11_1 c17_hX11_2 c17_hX11_3 c17_hX14_0 c17_hX14_1 c17_hX14_2 c17_hX14_3
              obtain ⟨c18_hMo_0, c18_hMo_1, c18_hMo_2, c18_hMo_3⟩ := hMo.cells4
              obtain ⟨c18_hRo_0, c18_hRo_1, c18_hRo_2, c18_hRo_3⟩ := hRo.cells4
              obtain ⟨c18_hX7_0, c18_hX7_1, c18_hX7_2, c18_hX7_3⟩ := hX7.cells4
              obtain ⟨c18_hX8_0, c18_hX8_1, c18_hX8_2, c18_hX8_3⟩ := hX8.cells4
              obtain ⟨c18_hX9_0, c18_hX9_1, c18_hX9_2, c18_hX9_3⟩ := hX9.cells4
              obtain ⟨c18_hX11_0, c18_hX11_1, c18_hX11_2, c18_hX11_3⟩ := hX11.cells4
              obtain ⟨c18_hX14_0, c18_hX14_1, c18_hX14_2, c18_hX14_3⟩ := hX14.cells4
              go_wp2_with fail
              refine (same_true _ _ _ _ o2 hz).mono ?_
              rintro e w8 ⟨rfl, n8, hn8⟩
              have b8 : Below w7.heap.size w7 w8 := by rw [hn8]; exact below_drewN (Below.refl _ _) n8
              clear hn8
              replace hv := hv.below b8
              replace ha := ha.below b8
              replace hd := hd.below b8
              replace hMo := hMo.below b8 hMo.lt
              replace hRo := hRo.below b8 hRo.lt
              replace hX7 := hX7.below b8 hX7.lt
              replace hX8 := hX8.below b8 hX8.lt
              replace i1 := i1.below b8
              replace i2 := i2.below b8
              replace hX9 := hX9.below b8 hX9.lt
              replace j1 := j1.below b8
              replace hX11 := hX11.below b8 hX11.lt
              replace hz := hz.below b8
              replace o1 := o1.below b8
              replace o2 := o2.below b8
              replace hX14 := hX14.below b8 hX14.lt
              replace hB := hB.trans (b8.mono hB.size)
              clear c18_hMo_0 c18_hMo_1 c18_hMo_2 c18_hMo_3 c18_hRo_0 c18_hRo_1 c18_hRo_2 c18_hRo_3 c18_hX7_0 c18_hX7_1 c18_hX7_2 c18_hX7_3 c18_hX8_0 c18_hX8_1 c18_hX8_2 c18_hX8_3 c18_hX9_0 c18_hX9_1 c18_hX9_2 c18_hX9_3 c18_hX11_0 c18_hX11_1 c18_hX11_2 c18_hX11_3 c18_hX14_0 c18_hX14_1 c18_hX14_2 c18_hX14_3
              obtain ⟨c19_hMo_0, c19_hMo_1, c19_hMo_2, c19_hMo_3⟩ := hMo.cells4
              obtain ⟨c19_hRo_0, c19_hRo_1, c19_hRo_2, c19_hRo_3⟩ := hRo.cells4
              obtain ⟨c19_hX7_0, c19_hX7_1, c19_hX7_2, c19_hX7_3⟩ := hX7.cells4
              obtain ⟨c19_hX8_0, c19_hX8_1, c19_hX8_2, c19_hX8_3⟩ := hX8.cells4
              obtain ⟨c19_hX9_0, c19_hX9_1, c19_hX9_2, c19_hX9_3⟩ := hX9.cells4
              obtain ⟨c19_hX11_0, c19_hX11_1, c19_hX11_2, c19_hX11_3⟩ := hX11.cells4
              obtain ⟨c19_hX14_0, c19_hX14_1, c19_hX14_2, c19_hX14_3⟩ := hX14.cells4
              go_wp2_with fail
              refine (hRt _).mono ?_
              rintro e w9 ⟨rfl, b9⟩
              replace hv := hv.below b9
              replace ha := ha.below b9
              replace hd := hd.below b9
              replace hMo := hMo.below b9 hMo.lt
              replace hRo := hRo.below b9 hRo.lt
              replace hX7 := hX7.below b9 hX7.lt
              replace hX8 := hX8.below b9 hX8.lt
              replace i1 := i1.below b9
              replace i2 := i2.below b9
              replace hX9 := hX9.below b9 hX9.lt
              replace j1 := j1.below b9
              replace hX11 := hX11.below b9 hX11.lt
              replace hz := hz.below b9
              replace o1 := o1.below b9
              replace o2 := o2.below b9
              replace hX14 := hX14.below b9 hX14.lt
              replace hB := hB.trans (b9.mono hB.size)
              clear c19_hMo_0 c19_hMo_1 c19_hMo_2 c19_hMo_3 c19_hRo_0 c19_hRo_1 c19_hRo_2 c19_hRo_3 c19_hX7_0 c19_hX7_1 c19_hX7_2 c19_hX7_3 c19_hX8_0 c19_hX8_1 c19_hX8_2 c19_hX8_3 c19_hX9_0 c19_hX9_1 c19_hX9_2 c19_hX9_3 c19_hX11_0 c19_hX11_1 c19_hX11_2 c19_hX11_3 c19_hX14_0 c19_hX14_1 c19_hX14_2 c19_hX14_3
              obtain ⟨c20_hMo_0, c20_hMo_1, c20_hMo_2, c20_hMo_3⟩ := hMo.cells4
              obtain ⟨c20_hRo_0, c20_hRo_1, c20_hRo_2, c20_hRo_3⟩ := hRo.cells4
              obtain ⟨c20_hX7_0, c20_hX7_1, c20_hX7_2, c20_hX7_3⟩ := hX7.cells4
              obtain ⟨c20_hX8_0, c20_hX8_1, c20_hX8_2, c20_hX8_3⟩ := hX8.cells4
              obtain ⟨c20_hX9_0, c20_hX9_1, c20_hX9_2, c20_hX9_3⟩ := hX9.cells4
              obtain ⟨c20_hX11_0, c20_hX11_1, c20_hX11_2, c20_hX11_3⟩ := hX11.cells4
              obtain ⟨c20_hX14_0, c20_hX14_1, c20_hX14_2, c20_hX14_3⟩ := hX14.cells4
              go_wp2
              go_ret
              exact ⟨rfl, hB⟩
            · go_wp2_with fail
              refine (hL _).mono ?_
              rintro e w6 ⟨rfl, b6⟩
              replace hv := hv.below b6
              replace ha := ha.below b6
              replace hd := hd.below b6
              replace hMo := hMo.below b6 hMo.lt
              replace hRo := hRo.below b6 hRo.lt
              replace hX7 := hX7.below b6 hX7.lt
              replace hX8 := hX8.below b6 hX8.lt
              replace i1 := i1.below b6
              replace i2 := i2.below b6
              replace hX9 := hX9.below b6 hX9.lt
              replace j1 := j1.below b6
              replace hX11 := hX11.below b6 hX11.lt
              replace hz := hz.below b6
              replace o1 := o1.below b6
              replace o2 := o2.below b6
              replace hX14 := hX14.below b6 hX14.lt
              replace hB := hB.trans (b6.mono hB.size)
              clear c15_hMo_0 c15_hMo_1 c15_hMo_2 c15_hMo_3 c15_hRo_0 c15_hRo_1 c15_hRo_2 c15_hRo_3 c15_hX7_0 c15_hX7_1 c15_hX7_2 c15_hX7_3 c15_hX8_0 c15_hX8_1 c15_hX8_2 c15_hX8_3 c15_hX9_0 c15_hX9_1 c15_hX9_2 c15_hX9_3 c15_hX11_0 c15_hX11_1 c15_hX11_2 c15_hX11_3 c15_hX14_0 c15_hX14_1 c15_hX14_2 c15_hX14_3
              obtain ⟨c16_hMo_0, c16_hMo_1, c16_hMo_2, c16_hMo_3⟩ := hMo.cells4
              obtain ⟨c16_hRo_0, c16_hRo_1, c16_hRo_2, c16_hRo_3⟩ := hRo.cells4
              obtain ⟨c16_hX7_0, c16_hX7_1, c16_hX7_2, c16_hX7_3⟩ := hX7.cells4
              obtain ⟨c16_hX8_0, c16_hX8_1, c16_hX8_2, c16_hX8_3⟩ := hX8.cells4
              obtain ⟨c16_hX9_0, c16_hX9_1, c16_hX9_2, c16_hX9_3⟩ := hX9.cells4
              obtain ⟨c16_hX11_0, c16_hX11_1, c16_hX11_2, c16_hX11_3⟩ := hX11.cells4
              obtain ⟨c16_hX14_0, c16_hX14_1, c16_hX14_2, c16_hX14_3⟩ := hX14.cells4
              go_wp2_with fail
              refine (hRt _).mono ?_
              rintro e w7 ⟨rfl, b7⟩
              replace hv := hv.below b7
              replace ha := ha.below b7
              replace hd := hd.below b7
              replace hMo := hMo.below b7 hMo.lt
              replace hRo := hRo.below b7 hRo.lt
              replace hX7 := hX7.below b7 hX7.lt
              replace hX8 := hX8.below b7 hX8.lt
              replace i1 := i1.below b7
              replace i2 := i2.below b7
              replace hX9 := hX9.below b7 hX9.lt
              replace j1 := j1.below b7
              replace hX11 := hX11.below b7 hX11.lt
              replace hz := hz.below b7
              replace o1 := o1.below b7
              replace o2 := o2.below b7
              replace hX14 := hX14.below b7 hX14.lt
              replace hB := hB.trans (b7.mono hB.size)
              clear c16_hMo_0 c16_hMo_1 c16_hMo_2 c16_hMo_3 c16_hRo_0 c16_hRo_1 c16_hRo_2 c16_hRo_3 c16_hX7_0 c16_hX7_1 c16_hX7_2 c16_hX7_3 c16_hX8_0 c16_hX8_1 c16_hX8_2 c16_hX8_3 c16_hX9_0 c16_hX9_1 c16_hX9_2 c16_hX9_3 c16_hX11_0 c16_hX11_1 c16_hX11_2 c16_hX11_3 c16_hX14_0 c16_hX14_1 c16_hX14_2 c16_hX14_3
              obtain ⟨c17_hMo_0, c17_hMo_1, c17_hMo_2, c17_hMo_3⟩ := hMo.cells4
              obtain ⟨c17_hRo_0, c17_hRo_1, c17_hRo_2, c17_hRo_3⟩ := hRo.cells4
              obtain ⟨c17_hX7_0, c17_hX7_1, c17_hX7_2, c17_hX7_3⟩ := hX7.cells4
              obtain ⟨c17_hX8_0, c17_hX8_1, c17_hX8_2, c17_hX8_3⟩ := hX8.cells4
              obtain ⟨c17_hX9_0, c17_hX9_1, c17_hX9_2, c17_hX9_3⟩ := hX9.cells4
              obtain ⟨c17_hX11_0, c17_hX11_1, c17_hX11_2, c17_hX11_3⟩ := hX11.cells4
              obtain ⟨c17_hX14_0, c17_hX14_1, c17_hX14_2, c17_hX14_3⟩ := hX14.cells4
              go_wp2
              go_ret
              exact ⟨rfl, hB⟩
          · rcases HP.out.2 with ⟨rfl, rfl, hx3, hy3⟩ | ⟨rfl, rfl⟩
            · have hx3 := hx3.symm
              subst hx3
              subst hy3
              go_wp2_with fail
              refine (hL _).mono ?_
              rintro e w5 ⟨rfl, b5⟩
              replace hv := hv.below b5
              replace ha := ha.below b5
              replace hd := hd.below b5
              replace hMo := hMo.below b5 hMo.lt
              replace hRo := hRo.below b5 hRo.lt
              replace hX7 := hX7.below b5 hX7.lt
              replace hX8 := hX8.below b5 hX8.lt
              replace i1 := i1.below b5
              replace i2 := i2.below b5
              replace hX9 := hX9.below b5 hX9.lt
              replace j1 := j1.below b5
              replace hX11 := hX11.below b5 hX11.lt
              replace hz := hz.below b5
              replace o1 := o1.below b5
              replace o2 := o2.below b5
              replace hX14 := hX14.below b5 hX14.lt
              replace hB := hB.trans (b5.mono hB.size)
              clear c14_hMo_0 c14_hMo_1 c14_hMo_2 c14_hMo_3 c14_hRo_0 c14_hRo_1 c14_hRo_2 c14_hRo_3 c14_hX7_0 c14_hX7_1 c14_hX7_2 c14_hX7_3 c14_hX8_0 c14_hX8_1 c14_hX8_2 c14_hX8_3 c14_hX9_0 c14_hX9_1 c14_hX9_2 c14_hX9_3 c14_hX11_0 c14_hX11_1 c14_hX11_2 c14_hX11_3 c14_hX14_0 c14_hX14_1 c14_hX14_2 c14_hX14_3
              obtain ⟨c15_hMo_0, c15_hMo_1, c15_hMo_2, c15_hMo_3⟩ := hMo.cells4
              obtain ⟨c15_hRo_0, c15_hRo_1, c15_hRo_2, c15_hRo_3⟩ := hRo.cells4
              obtain ⟨c15_hX7_0, c15_hX7_1, c15_hX7_2, c15_hX7_3⟩ := hX7.cells4
              obtain ⟨c15_hX8_0, c15_hX8_1, c15_hX8_2, c15_hX8_3⟩ := hX8.cells4
              obtain ⟨c15_hX9_0, c15_hX9_1, c15_hX9_2, c15_hX9_3⟩ := hX9.cells4
              obtain ⟨c15_hX11_0, c15_hX11_1, c15_hX11_2, c15_hX11_3⟩ := hX11.cells4
              obtain ⟨c15_hX14_0, c15_hX14_1, c15_hX14_2, c15_hX14_3⟩ := hX14.cells4
              go_wp2_with fail
              refine (same_true _ _ _ _ o1 ha).mono ?_
              rintro e w6 ⟨rfl, n6, hn6⟩
              have b6 : Below w5.heap.size w5 w6 := by rw [hn6]; exact below_drewN (Below.refl _ _) n6
              clear hn6
              replace hv := hv.below b6
              replace ha := ha.below b6
              replace hd := hd.below b6
              replace hMo := hMo.below b6 hMo.lt
              replace hRo := hRo.below b6 hRo.lt
              replace hX7 := hX7.below b6 hX7.lt
              replace hX8 := hX8.below b6 hX8.lt
              replace i1 := i1.below b6
              replace i2 := i2.below b6
              replace hX9 := hX9.below b6 hX9.lt
              replace j1 := j1.below b6
              replace hX11 := hX11.below b6 hX11.lt
              replace hz := hz.below b6
              replace o1 := o1.below b6
              replace o2 := o2.below b6
              replace hX14 := hX14.below b6 hX14.lt
              replace hB := hB.trans (b6.mono hB.size)
              clear c15_hMo_0 c15_hMo_1 c15_hMo_2 c15_hMo_3 c15_hRo_0 c15_hRo_1 c15_hRo_2 c15_hRo_3 c15_hX7_0 c15_hX7_1 c15_hX7_2 c15_hX7_3 c15_hX8_0 c15_hX8_1 c15_hX8_2 c15_hX8_3 c15_hX9_0 c15_hX9_1 c15_hX9_2 c15_hX9_3 c15_hX11_0 c15_hX11_1 c15_hX11_2 c15_hX11_3 c15_hX14_0 c15_hX14_1 c15_hX14_2 c15_hX14_3
              obtain ⟨c16_hMo_0, c16_hMo_1, c16_hMo_2, c16_hMo_3⟩ := hMo.cells4
              obtain ⟨c16_hRo_0, c16_hRo_1, c16_hRo_2, c16_hRo_3⟩ := hRo.cells4
              obtain ⟨c16_hX7_0, c16_hX7_1, c16_hX7_2, c16_hX7_3⟩ := hX7.cells4
              obtain ⟨c16_hX8_0, c16_hX8_1, c16_hX8_2, c16_hX8_3⟩ := hX8.cells4
              obtain ⟨c16_hX9_0, c16_hX9_1, c16_hX9_2, c16_hX9_3⟩ := hX9.cells4
              obtain ⟨c16_hX11_0, c16_hX11_1, c16_hX11_2, c16_hX11_3⟩ := hX11.cells4
              obtain ⟨c16_hX14_0, c16_hX14_1, c16_hX14_2, c16_hX14_3⟩ := hX14.cells4
              rw [List.length_replicate] at o2 hX14
              clear c16_hMo_0 c16_hMo_1 c16_hMo_2 c16_hMo_3 c16_hRo_0 c16_hRo_1 c16_hRo_2 c16_hRo_3 c16_hX7_0 c16_hX7_1 c16_hX7_2 c16_hX7_3 c16_hX8_0 c16_hX8_1 c16_hX8_2 c16_hX8_3 c16_hX9_0 c16_hX9_1 c16_hX9_2 c16_hX9_3 c16_hX11_0 c16_hX11_1 c16_hX11_2 c16_hX11_3 c16_hX14_0 c16_hX14_1 c16_hX14_2 c16_hX14_3
              obtain ⟨c17_hMo_0, c17_hMo_1, c17_hMo_2, c17_hMo_3⟩ := hMo.cells4
              obtain ⟨c17_hRo_0, c17_hRo_1, c17_hRo_2, c17_hRo_3⟩ := hRo.cells4
              obtain ⟨c17_hX7_0, c17_hX7_1, c17_hX7_2, c17_hX7_3⟩ := hX7.cells4
              obtain ⟨c17_hX8_0, c17_hX8_1, c17_hX8_2, c17_hX8_3⟩ := hX8.cells4
              obtain ⟨c17_hX9_0, c17_hX9_1, c17_hX9_2, c17_hX9_3⟩ := hX9.cells4
              obtain ⟨c17_hX11_0, c17_hX11_1, c17_hX11_2, c17_hX11_3⟩ := hX11.cells4
              obtain ⟨c17_hX14_0, c17_hX14_1, c17_hX14_2, c17_hX14_3⟩ := hX14.cells4
              go_wp2_with fail
              refine (same_true _ _ _ _ o2 hz).mono ?_
              rintro e w7 ⟨rfl, n7, hn7⟩
              have b7 : Below w6.heap.size w6 w7 := by rw [hn7]; exact below_drewN (Below.refl _ _) n7
              clear hn7
              replace hv := hv.below b7
              replace ha := ha.below b7
              replace hd := hd.below b7
              replace hMo := hMo.below b7 hMo.lt
              replace hRo := hRo.below b7 hRo.lt
              replace hX7 := hX7.below b7 hX7.lt
              replace hX8 := hX8.below b7 hX8.lt
              replace i1 := i1.below b7
              replace i2 := i2.below b7
              replace hX9 := hX9.below b7 hX9.lt
              replace j1 := j1.below b7
              replace hX11 := hX11.below b7 hX11.lt
              replace hz := hz.below b7
              replace o1 := o1.below b7
              replace o2 := o2.below b7
              replace hX14 := hX14.below b7 hX14.lt
              replace hB := hB.trans (b7.mono hB.size)
              clear c17_hMo_0 c17_hMo_1 c17_hMo_2 c17_hMo_3 c17_hRo_0 c17_hRo_1 c17_hRo_2 c17_hRo_3 c17_hX7_0 c17_hX7_1 c17_hX7_2 c17_hX7_3 c17_hX8_0 c17_hX8_1 c17_hX8_2 c17_hX8_3 c17_hX9_0 c17_hX9_1 c17_hX9_2 c17_hX9_3 c17_hX11_0 c17_hX11_1 c17_hX11_2 c17_hX11_3 c17_hX14_0 c17_hX14_1 c17_hX14_2 c17_hX14_3
              obtain ⟨c18_hMo_0, c18_hMo_1, c18_hMo_2, c18_hMo_3⟩ := hMo.cells4
              obtain ⟨c18_hRo_0, c18_hRo_1, c18_hRo_2, c18_hRo_3⟩ := hRo.cells4
              obtain ⟨c18_hX7_0, c18_hX7_1, c18_hX7_2, c18_hX7_3⟩ := hX7.cells4
              obtain ⟨c18_hX8_0, c18_hX8_1, c18_hX8_2, c18_hX8_3⟩ := hX8.cells4
              obtain ⟨c18_hX9_0, c18_hX9_1, c18_hX9_2, c18_hX9_3⟩ := hX9.cells4
              obtain ⟨c18_hX11_0, c18_hX11_1, c18_hX11_2, c18_hX11_3⟩ := hX11.cells4
              obtain ⟨c18_hX14_0, c18_hX14_1, c18_hX14_2, c18_hX14_3⟩ := hX14.cells4
              go_wp2_with fail
              refine (hRt _).mono ?_
              rintro e w8 ⟨rfl, b8⟩
              replace hv := hv.below b8
              replace ha := ha.below b8
              replace hd := hd.below b8
              replace hMo := hMo.below b8 hMo.lt
              replace hRo := hRo.below b8 hRo.lt
              replace hX7 := hX7.below b8 hX7.lt
              replace hX8 := hX8.below b8 hX8.lt
              replace i1 := i1.below b8
              replace i2 := i2.below b8
              replace hX9 := hX9.below b8 hX9.lt
              replace j1 := j1.below b8
              replace hX11 := hX11.below b8 hX11.lt
              replace hz := hz.below b8
              replace o1 := o1.below b8
              replace o2 := o2.below b8
              replace hX14 := hX14.below b8 hX14.lt
              replace hB := hB.trans (b8.mono hB.size)
              clear c18_hMo_0 c18_hMo_1 c18_hMo_2 c18_hMo_3 c18_hRo_0 c18_hRo_1 c18_hRo_2 c18_hRo_3 c18_hX7_0 c18_hX7_1 c18_hX7_2 c18_hX7_3 c18_hX8_0 c18_hX8_1 c18_hX8_2 c18_hX8_3 c18_hX9_0 c18_hX9_1 c18_hX9_2 c18_hX9_3 c18_hX11_0 c18_hX11_1 c18_hX11_2 c18_hX11_3 c18_hX14_0 c18_hX14_1 c18_hX14_2 c18_hX14_3
              obtain ⟨c19_hMo_0, c19_hMo_1, c19_hMo_2, c19_hMo_3⟩ := hMo.cells4
              obtain ⟨c19_hRo_0, c19_hRo_1, c19_hRo_2, c19_hRo_3⟩ := hRo.cells4
              obtain ⟨c19_hX7_0, c19_hX7_1, c19_hX7_2, c19_hX7_3⟩ := hX7.cells4
              obtain ⟨c19_hX8_0, c19_hX8_1, c19_hX8_2, c19_hX8_3⟩ := hX8.cells4
              obtain ⟨c19_hX9_0, c19_hX9_1, c19_hX9_2, c19_hX9_3⟩ := hX9.cells4
              obtain ⟨c19_hX11_0, c19_hX11_1, c19_hX11_2, c19_hX11_3⟩ := hX11.cells4
              obtain ⟨c19_hX14_0, c19_hX14_1, c19_hX14_2, c19_hX14_3⟩ := hX14.cells4
              go_wp2
              go_ret
              exact ⟨rfl, hB⟩
            · go_wp2_with fail
              refine (hL _).mono ?_
              rintro e w5 ⟨rfl, b5⟩
              replace hv := hv.below b5
              replace ha := ha.below b5
              replace hd := hd.below b5
              replace hMo := hMo.below b5 hMo.lt
              replace hRo := hRo.below b5 hRo.lt
              replace hX7 := hX7.below b5 hX7.lt
              replace hX8 := hX8.below b5 hX8.lt
              replace i1 := i1.below b5
              replace i2 := i2.below b5
              replace hX9 := hX9.below b5 hX9.lt
              replace j1 := j1.below b5
              replace hX11 := hX11.below b5 hX11.lt
              replace hz := hz.below b5
              replace o1 := o1.below b5
              replace o2 := o2.below b5
              replace hX14 := hX14.below b5 hX14.lt
              replace hB := hB.trans (b5.mono hB.size)
              clear c14_hMo_0 c14_hMo_1 c14_hMo_2 c14_hMo_3 c14_hRo_0 c14_hRo_1 c14_hRo_2 c14_hRo_3 c14_hX7_0 c14_hX7_1 c14_hX7_2 c14_hX7_3 c14_hX8_0 c14_hX8_1 c14_hX8_2 c14_hX8_3 c14_hX9_0 c14_hX9_1 c14_hX9_2 c14_hX9_3 c14_hX11_0 c14_hX11_1 c14_hX11_2 c14_hX11_3 c14_hX14_0 c14_hX14_1 c14_hX14_2 c14_hX14_3
              obtain ⟨c15_hMo_0, c15_hMo_1, c15_hMo_2, c15_hMo_3⟩ := hMo.cells4
              obtain ⟨c15_hRo_0, c15_hRo_1, c15_hRo_2, c15_hRo_3⟩ := hRo.cells4
              obtain ⟨c15_hX7_0, c15_hX7_1, c15_hX7_2, c15_hX7_3⟩ := hX7.cells4
              obtain ⟨c15_hX8_0, c15_hX8_1, c15_hX8_2, c15_hX8_3⟩ := hX8.cells4
              obtain ⟨c15_hX9_0, c15_hX9_1, c15_hX9_2, c15_hX9_3⟩ := hX9.cells4
              obtain ⟨c15_hX11_0, c15_hX11_1, c15_hX11_2, c15_hX11_3⟩ := hX11.cells4
              obtain ⟨c15_hX14_0, c15_hX14_1, c15_hX14_2, c15_hX14_3⟩ := hX14.cells4
              go_wp2_with fail
              refine (hRt _).mono ?_
              rintro e w6 ⟨rfl, b6⟩
              replace hv := hv.below b6
              replace ha := ha.below b6
              replace hd := hd.below b6
              replace hMo := hMo.below b6 hMo.lt
              replace hRo := hRo.below b6 hRo.lt
              replace hX7 := hX7.below b6 hX7.lt
              replace hX8 := hX8.below b6 hX8.lt
              replace i1 := i1.below b6
              replace i2 := i2.below b6
              replace hX9 := hX9.below b6 hX9.lt
              replace j1 := j1.below b6
              replace hX11 := hX11.below b6 hX11.lt
              replace hz := hz.below b6
              replace o1 := o1.below b6
              replace o2 := o2.below b6
              replace hX14 := hX14.below b6 hX14.lt
              replace hB := hB.trans (b6.mono hB.size)
              clear c15_hMo_0 c15_hMo_1 c15_hMo_2 c15_hMo_3 c15_hRo_0 c15_hRo_1 c15_hRo_2 c15_hRo_3 c15_hX7_0 c15_hX7_1 c15_hX7_2 c15_hX7_3 c15_hX8_0 c15_hX8_1 c15_hX8_2 c15_hX8_3 c15_hX9_0 c15_hX9_1 c15_hX9_2 c15_hX9_3 c15_hX11_0 c15_hX11_1 c15_hX11_2 c15_hX11_3 c15_hX14_0 c15_hX14_1 c15_hX14_2 c15_hX14_3
              obtain ⟨c16_hMo_0, c16_hMo_1, c16_hMo_2, c16_hMo_3⟩ := hMo.cells4
              obtain ⟨c16_hRo_0, c16_hRo_1, c16_hRo_2, c16_hRo_3⟩ := hRo.cells4
              obtain ⟨c16_hX7_0, c16_hX7_1, c16_hX7_2, c16_hX7_3⟩ := hX7.cells4
              obtain ⟨c16_hX8_0, c16_hX8_1, c16_hX8_2, c16_hX8_3⟩ := hX8.cells4
              obtain ⟨c16_hX9_0, c16_hX9_1, c16_hX9_2, c16_hX9_3⟩ := hX9.cells4
              obtain ⟨c16_hX11_0, c16_hX11_1, c16_hX11_2, c16_hX11_3⟩ := hX11.cells4
              obtain ⟨c16_hX14_0, c16_hX14_1, c16_hX14_2, c16_hX14_3⟩ := hX14.cells4
              go_wp2
              go_ret
              exact ⟨rfl, hB⟩
      · have hne : ¬ ((D.length : Int) = A.length) := by omega
        rw [hm] at hv hF ⊢
        clear k1 k2 k3 k4 hfew ha hb hc hd
        obtain ⟨W0, hW, hT, hB⟩ := box2 w 23 26 #[.int .i64 lr, .int .i64 mu, .int .i64 wd, .bool nest] #[.slice Aa A.length Ca, .slice Ab A.length Cb, .slice Ac C.length Cc, .slice Ad D.length Cd]
        obtain ⟨g, hg⟩ : ∃ g, g = w.heap.size := ⟨_, rfl⟩
        have hW' := Lib.hid (And.intro hW hg)
        rw [← hg] at hT
        have hgw : w.heap.size ≤ g := by omega
        clear hW hg
        obtain ⟨hMo, hRo⟩ := hT
        replace hv := hv.below hB
        obtain ⟨c1_hMo_0, c1_hMo_1, c1_hMo_2, c1_hMo_3⟩ := hMo.cells4
        obtain ⟨c1_hRo_0, c1_hRo_1, c1_hRo_2, c1_hRo_3⟩ := hRo.cells4
        go_enter Try.func6, Try.ntmps6
        go_wp2_with fail
        rw [← hW'.out.1, ← hW'.out.2]
        refine (hF _ hv).mono ?_
        rintro e w1 ⟨rfl, b1⟩
        replace hv := hv.below b1
        replace hMo := hMo.below b1 hMo.lt
        replace hRo := hRo.below b1 hRo.lt
        replace hB := hB.trans (b1.mono hB.size)
        clear c1_hMo_0 c1_hMo_1 c1_hMo_2 c1_hMo_3 c1_hRo_0 c1_hRo_1 c1_hRo_2 c1_hRo_3
        obtain ⟨c2_hMo_0, c2_hMo_1, c2_hMo_2, c2_hMo_3⟩ := hMo.cells4
        obtain ⟨c2_hRo_0, c2_hRo_1, c2_hRo_2, c2_hRo_3⟩ := hRo.cells4
        go_wp2_with fail
        refine (hL _).mono ?_
        rintro e w2 ⟨rfl, b2⟩
        replace hv := hv.below b2
        replace hMo := hMo.below b2 hMo.lt
        replace hRo := hRo.below b2 hRo.lt
        replace hB := hB.trans (b2.mono hB.size)
        clear c2_hMo_0 c2_hMo_1 c2_hMo_2 c2_hMo_3 c2_hRo_0 c2_hRo_1 c2_hRo_2 c2_hRo_3
        obtain ⟨c3_hMo_0, c3_hMo_1, c3_hMo_2, c3_hMo_3⟩ := hMo.cells4
        obtain ⟨c3_hRo_0, c3_hRo_1, c3_hRo_2, c3_hRo_3⟩ := hRo.cells4
        go_wp2
        go_ret
        exact ⟨rfl, hB⟩
    · have hne : ¬ ((B.length : Int) = A.length) := by omega
      clear k1 k2 k3 k4 hfew ha hb hc hd
      obtain ⟨W0, hW, hT, hB⟩ := box2 w 23 26 #[.int .i64 lr, .int .i64 mu, .int .i64 wd, .bool nest] #[.slice Aa A.length Ca, .slice Ab B.length Cb, .slice Ac C.length Cc, .slice Ad D.length Cd]
      obtain ⟨g, hg⟩ : ∃ g, g = w.heap.size := ⟨_, rfl⟩
      have hW' := Lib.hid (And.intro hW hg)
      rw [← hg] at hT
      have hgw : w.heap.size ≤ g := by omega
      clear hW hg
      obtain ⟨hMo, hRo⟩ := hT
      replace hv := hv.below hB
      obtain ⟨c1_hMo_0, c1_hMo_1, c1_hMo_2, c1_hMo_3⟩ := hMo.cells4
      obtain ⟨c1_hRo_0, c1_hRo_1, c1_hRo_2, c1_hRo_3⟩ := hRo.cells4
      go_enter Try.func6, Try.ntmps6
      go_wp2_with fail
      rw [← hW'.out.1, ← hW'.out.2]
      refine (hF _ hv).mono ?_
      rintro e w1 ⟨rfl, b1⟩
      replace hv := hv.below b1
      replace hMo := hMo.below b1 hMo.lt
      replace hRo := hRo.below b1 hRo.lt
      replace hB := hB.trans (b1.mono hB.size)
      clear c1_hMo_0 c1_hMo_1 c1_hMo_2 c1_hMo_3 c1_hRo_0 c1_hRo_1 c1_hRo_2 c1_hRo_3
      obtain ⟨c2_hMo_0, c2_hMo_1, c2_hMo_2, c2_hMo_3⟩ := hMo.cells4
      obtain ⟨c2_hRo_0, c2_hRo_1, c2_hRo_2, c2_hRo_3⟩ := hRo.cells4
      go_wp2_with fail
      refine (hL _).mono ?_
      rintro e w2 ⟨rfl, b2⟩
      replace hv := hv.below b2
      replace hMo := hMo.below b2 hMo.lt
      replace hRo := hRo.below b2 hRo.lt
      replace hB := hB.trans (b2.mono hB.size)
      clear c2_hMo_0 c2_hMo_1 c2_hMo_2 c2_hMo_3 c2_hRo_0 c2_hRo_1 c2_hRo_2 c2_hRo_3
      obtain ⟨c3_hMo_0, c3_hMo_1, c3_hMo_2, c3_hMo_3⟩ := hMo.cells4
      obtain ⟨c3_hRo_0, c3_hRo_1, c3_hRo_2, c3_hRo_3⟩ := hRo.cells4
      go_wp2
      go_ret
      exact ⟨rfl, hB⟩
  · rw [decide_eq_false hfew] at hF
    have HV := Lib.hid hv
    clear k1 k2 k3 k4 hfew
    obtain ⟨W0, hW, hT, hB⟩ := box2 w 23 26 #[.int .i64 lr, .int .i64 mu, .int .i64 wd, .bool nest] #[.slice Aa A.length Ca, .slice Ab B.length Cb, .slice Ac C.length Cc, .slice Ad D.length Cd]
    obtain ⟨g, hg⟩ : ∃ g, g = w.heap.size := ⟨_, rfl⟩
    have hW' := Lib.hid (And.intro hW hg)
    rw [← hg] at hT
    have hgw : w.heap.size ≤ g := by omega
    clear hW hg
    obtain ⟨hMo, hRo⟩ := hT
    replace hv := hv.below hB
    obtain ⟨c1_hMo_0, c1_hMo_1, c1_hMo_2, c1_hMo_3⟩ := hMo.cells4
    obtain ⟨c1_hRo_0, c1_hRo_1, c1_hRo_2, c1_hRo_3⟩ := hRo.cells4
    go_enter Try.func6, Try.ntmps6
    go_wp2_with fail
    rw [← hW'.out.1, ← hW'.out.2]
    refine (hF _ hv).mono ?_
    rintro e w1 ⟨rfl, b1⟩
    replace hv := hv.below b1
    replace hMo := hMo.below b1 hMo.lt
    replace hRo := hRo.below b1 hRo.lt
    replace hB := hB.trans (b1.mono hB.size)
    clear c1_hMo_0 c1_hMo_1 c1_hMo_2 c1_hMo_3 c1_hRo_0 c1_hRo_1 c1_hRo_2 c1_hRo_3
    obtain ⟨c2_hMo_0, c2_hMo_1, c2_hMo_2, c2_hMo_3⟩ := hMo.cells4
    obtain ⟨c2_hRo_0, c2_hRo_1, c2_hRo_2, c2_hRo_3⟩ := hRo.cells4
    go_wp2_with fail
    refine (hL _).mono ?_
    rintro e w2 ⟨rfl, b2⟩
    replace hv := hv.below b2
    replace hMo := hMo.below b2 hMo.lt
    replace hRo := hRo.below b2 hRo.lt
    replace hB := hB.trans (b2.mono hB.size)
    clear c2_hMo_0 c2_hMo_1 c2_hMo_2 c2_hMo_3 c2_hRo_0 c2_hRo_1 c2_hRo_2 c2_hRo_3
    obtain ⟨c3_hMo_0, c3_hMo_1, c3_hMo_2, c3_hMo_3⟩ := hMo.cells4
    obtain ⟨c3_hRo_0, c3_hRo_1, c3_hRo_2, c3_hRo_3⟩ := hRo.cells4
    go_wp2
    go_ret
    exact ⟨rfl, hB⟩
end Go.Proofs.Ytbnnonmkkkhepaa
