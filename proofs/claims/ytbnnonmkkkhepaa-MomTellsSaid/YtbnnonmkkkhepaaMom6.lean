/- Package mom: the step of any rows; whether rows are few, the same; the live question. Printed by gen_mom6.py. -/
import Derived.Test.YtbnnonmkkkhepaaMom5
import Derived.Test.YtbnnonmkkkhepaaRef09s
import Derived.Test.YtbnnonmkkkhepaaOpenR
import Derived.Test.YtbnnonmkkkhepaaZedW
import Derived.RegionTactic
import Derived.Deep.DeepCutAuto
namespace Go.Proofs.Ytbnnonmkkkhepaa
open Go.RowKit
attribute [local go_sem ↓] Go.wp_at_zero Go.wp_at_succ

/-- why there is no step, or 0 -/
def stErr (lr mu wd : Int) (nest : Bool) (f : Int) (W M G : List Int) : Int :=
  if rightM lr mu wd f = true then (if M.length = W.length ∧ G.length = W.length then (if errTo lr mu wd nest f.toNat W M G W.length = 0 then 0 else 2) else 5) else 1
def stWs (lr mu wd : Int) (nest : Bool) (f : Int) (W M G : List Int) : List Int := if stErr lr mu wd nest f W M G = 0 then (List.range W.length).map (plW lr mu wd nest f.toNat W M G) else []
def stMs (lr mu wd : Int) (nest : Bool) (f : Int) (W M G : List Int) : List Int := if stErr lr mu wd nest f W M G = 0 then (List.range W.length).map (plV mu wd f.toNat W M G) else []
theorem rightM_f {lr mu wd f : Int} (h : rightM lr mu wd f = true) : 0 ≤ f ∧ f ≤ 40 := by unfold rightM at h; have := of_decide_eq_true h; omega
theorem stWs_err {lr mu wd : Int} {nest : Bool} {f : Int} {W M G : List Int} (h : stErr lr mu wd nest f W M G ≠ 0) : stWs lr mu wd nest f W M G = [] := if_neg h
theorem stMs_err {lr mu wd : Int} {nest : Bool} {f : Int} {W M G : List Int} (h : stErr lr mu wd nest f W M G ≠ 0) : stMs lr mu wd nest f W M G = [] := if_neg h
def nilR : Value := .agg #[.slice none 0 0, .slice none 0 0, .slice none 0 0, .slice none 0 0]
theorem IsR.nils (w : World) : IsR w (.agg #[.slice none 0 0, .slice none 0 0, .slice none 0 0, .slice none 0 0]) [] [] [] [] := ⟨_, _, _, _, rfl, IsI.nil w, IsI.nil w, IsI.nil w, IsI.nil w⟩
theorem Step_all (lr mu wd f : Int) (nest : Bool) (v : Value) (W M V G : List Int) (w : World) (h : IsR w v W M V G) (hn : W.length ≤ 1000000)
    (hlr : In64 lr) (hmu : In64 mu) (hwd : In64 wd) (iW : AllIn W) (iM : AllIn M) (iG : AllIn G) :
    Calls Try.prog 10 #[.agg #[.int .i64 lr, .int .i64 mu, .int .i64 wd, .bool nest], .int .i64 f, v] w fun x w' =>
      ∃ r, x = .returned (.tuple #[r, .int .i64 (stErr lr mu wd nest f W M G)]) ∧ IsR w' r (stWs lr mu wd nest f W M G) (stMs lr mu wd nest f W M G) [] [] ∧ Below w.heap.size w w' := by
  obtain ⟨a, b, c, d, rfl, ha, hb, hc, hd⟩ := h
  by_cases hr : rightM lr mu wd f = true
  · by_cases hs : M.length = W.length ∧ G.length = W.length
    · obtain ⟨f0, f1⟩ := rightM_f hr
      obtain ⟨n, rfl⟩ := Int.eq_ofNat_of_zero_le f0
      refine (Step_runs lr mu wd n nest a b c d W M G w ha hb hd hr hs hn (by omega) hlr hmu hwd iW iM iG).mono ?_
      rintro x w' ⟨h1, h2, hB⟩
      unfold stWs stMs stErr
      rw [if_pos hr, if_pos hs, Int.toNat_natCast]
      by_cases he : errTo lr mu wd nest n W M G W.length = 0
      · obtain ⟨p, q, e, k1, k2⟩ := h2 he
        rw [if_pos he, if_pos rfl, if_pos rfl]
        exact ⟨_, e, ⟨p, q, _, _, rfl, k1, k2, IsI.nil _, IsI.nil _⟩, hB⟩
      · rw [if_neg he, if_neg (by decide), if_neg (by decide)]
        exact ⟨_, h1 he, IsR.nils _, hB⟩
    · refine (Step_shape lr mu wd f nest a b c d W M G w ha hb hd hr hs).mono ?_
      rintro x w' ⟨e, hB⟩
      unfold stWs stMs stErr
      rw [if_pos hr, if_neg hs, if_neg (by decide), if_neg (by decide)]
      exact ⟨_, e, IsR.nils _, hB⟩
  · refine (Step_wrong lr mu wd f nest a b c d W w ha (by simpa using hr)).mono ?_
    rintro x w' ⟨e, hB⟩
    unfold stWs stMs stErr
    rw [if_neg hr, if_neg (by decide), if_neg (by decide)]
    exact ⟨_, e, IsR.nils _, hB⟩
set_option maxHeartbeats 1000000 in
theorem few17_any (v : Value) (A B C D : List Int) (m : Nat) (w : World) (h : IsR w v A B C D) (h1 : A.length ≤ 17592186044416) (h2 : B.length ≤ 17592186044416) (h3 : C.length ≤ 17592186044416) (h4 : D.length ≤ 17592186044416) (hm : m ≤ 1000) :
    Calls Try.prog 8 #[v, .int .i64 m] w fun e w' => e = .returned (.bool (decide (A.length + B.length + C.length + D.length ≤ m))) ∧ Below w.heap.size w w' := by
  obtain ⟨a, b, c, d, rfl, ⟨Aa, Ca, rfl, _⟩, ⟨Ab, Cb, rfl, _⟩, ⟨Ac, Cc, rfl, _⟩, ⟨Ad, Cd, rfl, _⟩⟩ := h
  generalize A.length = na at *
  generalize B.length = nb at *
  generalize C.length = nc at *
  generalize D.length = nd at *
  have hd : decide (na + nb + nc + nd ≤ m) = decide ((na : Int) + nb + nc + nd ≤ m) := by rw [Bool.eq_iff_iff]; simp; omega
  rw [hd]
  have k1 : (na : Int) ≤ 17592186044416 := by omega
  have k2 : (nb : Int) ≤ 17592186044416 := by omega
  have k3 : (nc : Int) ≤ 17592186044416 := by omega
  have k4 : (nd : Int) ≤ 17592186044416 := by omega
  have HB := Lib.hid ((Below.refl w.heap.size w).alloc (Nat.le_refl _) (.cells #[.slice Aa na Ca, .slice Ab nb Cb, .slice Ac nc Cc, .slice Ad nd Cd] 26))
  clear hd
  go_enter Try.func8, Try.ntmps8
  go_wp2
  go_ret
  exact ⟨rfl, HB.out⟩
theorem Blk.cells4 {w : World} {g : Nat} {t : TypeId} {a b c d : Value} (h : Blk w g t #[a, b, c, d]) : w.cell? ⟨g, 0, none⟩ = some a ∧ w.cell? ⟨g, 1, none⟩ = some b ∧ w.cell? ⟨g, 2, none⟩ = some c ∧ w.cell? ⟨g, 3, none⟩ = some d := ⟨h.cell 0, h.cell 1, h.cell 2, h.cell 3⟩
set_option maxHeartbeats 4000000 in
theorem same17_any (u v : Value) (A B C D A' B' C' D' : List Int) (w : World) (hu : IsR w u A B C D) (hv : IsR w v A' B' C' D') :
    Calls Try.prog 14 #[u, v] w fun e w' => e = .returned (.bool (decide (A = A') && (decide (B = B') && (decide (C = C') && decide (D = D'))))) ∧ Below w.heap.size w w' := by
  obtain ⟨a, b, c, d, rfl, ha, hb, hc, hd⟩ := hu
  obtain ⟨a', b', c', d', rfl, ha', hb', hc', hd'⟩ := hv
  have h1 := fun w x y => same_any a a' A A' w x y
  have h2 := fun w x y => same_any b b' B B' w x y
  have h3 := fun w x y => same_any c c' C C' w x y
  have h4 := fun w x y => same_any d d' D D' w x y
  generalize decide (A = A') = r1 at *
  generalize decide (B = B') = r2 at *
  generalize decide (C = C') = r3 at *
  generalize decide (D = D') = r4 at *
  obtain ⟨W0, hW, hT, hB⟩ := box2 w 26 26 #[a, b, c, d] #[a', b', c', d']
  obtain ⟨g, hg⟩ : ∃ g, g = w.heap.size := ⟨_, rfl⟩
  have hW' := Lib.hid (And.intro hW hg)
  rw [← hg] at hT
  have hgw : w.heap.size ≤ g := by omega
  clear hW hg
  obtain ⟨hA, hB0⟩ := hT
  replace ha := ha.below hB
  replace hb := hb.below hB
  replace hc := hc.below hB
  replace hd := hd.below hB
  replace ha' := ha'.below hB
  replace hb' := hb'.below hB
  replace hc' := hc'.below hB
  replace hd' := hd'.below hB
  obtain ⟨c1_hA_0, c1_hA_1, c1_hA_2, c1_hA_3⟩ := hA.cells4
  obtain ⟨c1_hB0_0, c1_hB0_1, c1_hB0_2, c1_hB0_3⟩ := hB0.cells4
  rcases r1 with _ | _
  · go_enter Try.func14, Try.ntmps14
    go_wp2_with fail
    rw [← hW'.out.1, ← hW'.out.2]
    refine (h1 _ ha ha').mono ?_
    rintro e w1 ⟨rfl, n1, hn1⟩
    have b1 : Below W0.heap.size W0 w1 := by rw [hn1]; exact below_drewN (Below.refl _ _) n1
    clear hn1
    replace ha := ha.below b1
    replace hb := hb.below b1
    replace hc := hc.below b1
    replace hd := hd.below b1
    replace ha' := ha'.below b1
    replace hb' := hb'.below b1
    replace hc' := hc'.below b1
    replace hd' := hd'.below b1
    replace hA := hA.below b1 hA.lt
    replace hB0 := hB0.below b1 hB0.lt
    replace hB := hB.trans (b1.mono hB.size)
    clear c1_hA_0 c1_hA_1 c1_hA_2 c1_hA_3 c1_hB0_0 c1_hB0_1 c1_hB0_2 c1_hB0_3
    obtain ⟨c2_hA_0, c2_hA_1, c2_hA_2, c2_hA_3⟩ := hA.cells4
    obtain ⟨c2_hB0_0, c2_hB0_1, c2_hB0_2, c2_hB0_3⟩ := hB0.cells4
    go_wp2
    go_ret
    exact ⟨rfl, hB⟩
  · rcases r2 with _ | _
    · go_enter Try.func14, Try.ntmps14
      go_wp2_with fail
      rw [← hW'.out.1, ← hW'.out.2]
      refine (h1 _ ha ha').mono ?_
      rintro e w1 ⟨rfl, n1, hn1⟩
      have b1 : Below W0.heap.size W0 w1 := by rw [hn1]; exact below_drewN (Below.refl _ _) n1
      clear hn1
      replace ha := ha.below b1
      replace hb := hb.below b1
      replace hc := hc.below b1
      replace hd := hd.below b1
      replace ha' := ha'.below b1
      replace hb' := hb'.below b1
      replace hc' := hc'.below b1
      replace hd' := hd'.below b1
      replace hA := hA.below b1 hA.lt
      replace hB0 := hB0.below b1 hB0.lt
      replace hB := hB.trans (b1.mono hB.size)
      clear c1_hA_0 c1_hA_1 c1_hA_2 c1_hA_3 c1_hB0_0 c1_hB0_1 c1_hB0_2 c1_hB0_3
      obtain ⟨c2_hA_0, c2_hA_1, c2_hA_2, c2_hA_3⟩ := hA.cells4
      obtain ⟨c2_hB0_0, c2_hB0_1, c2_hB0_2, c2_hB0_3⟩ := hB0.cells4
      go_wp2_with fail
      refine (h2 _ hb hb').mono ?_
      rintro e w2 ⟨rfl, n2, hn2⟩
      have b2 : Below w1.heap.size w1 w2 := by rw [hn2]; exact below_drewN (Below.refl _ _) n2
      clear hn2
      replace ha := ha.below b2
      replace hb := hb.below b2
      replace hc := hc.below b2
      replace hd := hd.below b2
      replace ha' := ha'.below b2
      replace hb' := hb'.below b2
      replace hc' := hc'.below b2
      replace hd' := hd'.below b2
      replace hA := hA.below b2 hA.lt
      replace hB0 := hB0.below b2 hB0.lt
      replace hB := hB.trans (b2.mono hB.size)
      clear c2_hA_0 c2_hA_1 c2_hA_2 c2_hA_3 c2_hB0_0 c2_hB0_1 c2_hB0_2 c2_hB0_3
      obtain ⟨c3_hA_0, c3_hA_1, c3_hA_2, c3_hA_3⟩ := hA.cells4
      obtain ⟨c3_hB0_0, c3_hB0_1, c3_hB0_2, c3_hB0_3⟩ := hB0.cells4
      go_wp2
      go_ret
      exact ⟨rfl, hB⟩
    · rcases r3 with _ | _
      · go_enter Try.func14, Try.ntmps14
        go_wp2_with fail
        rw [← hW'.out.1, ← hW'.out.2]
        refine (h1 _ ha ha').mono ?_
        rintro e w1 ⟨rfl, n1, hn1⟩
        have b1 : Below W0.heap.size W0 w1 := by rw [hn1]; exact below_drewN (Below.refl _ _) n1
        clear hn1
        replace ha := ha.below b1
        replace hb := hb.below b1
        replace hc := hc.below b1
        replace hd := hd.below b1
        replace ha' := ha'.below b1
        replace hb' := hb'.below b1
        replace hc' := hc'.below b1
        replace hd' := hd'.below b1
        replace hA := hA.below b1 hA.lt
        replace hB0 := hB0.below b1 hB0.lt
        replace hB := hB.trans (b1.mono hB.size)
        clear c1_hA_0 c1_hA_1 c1_hA_2 c1_hA_3 c1_hB0_0 c1_hB0_1 c1_hB0_2 c1_hB0_3
        obtain ⟨c2_hA_0, c2_hA_1, c2_hA_2, c2_hA_3⟩ := hA.cells4
        obtain ⟨c2_hB0_0, c2_hB0_1, c2_hB0_2, c2_hB0_3⟩ := hB0.cells4
        go_wp2_with fail
        refine (h2 _ hb hb').mono ?_
        rintro e w2 ⟨rfl, n2, hn2⟩
        have b2 : Below w1.heap.size w1 w2 := by rw [hn2]; exact below_drewN (Below.refl _ _) n2
        clear hn2
        replace ha := ha.below b2
        replace hb := hb.below b2
        replace hc := hc.below b2
        replace hd := hd.below b2
        replace ha' := ha'.below b2
        replace hb' := hb'.below b2
        replace hc' := hc'.below b2
        replace hd' := hd'.below b2
        replace hA := hA.below b2 hA.lt
        replace hB0 := hB0.below b2 hB0.lt
        replace hB := hB.trans (b2.mono hB.size)
        clear c2_hA_0 c2_hA_1 c2_hA_2 c2_hA_3 c2_hB0_0 c2_hB0_1 c2_hB0_2 c2_hB0_3
        obtain ⟨c3_hA_0, c3_hA_1, c3_hA_2, c3_hA_3⟩ := hA.cells4
        obtain ⟨c3_hB0_0, c3_hB0_1, c3_hB0_2, c3_hB0_3⟩ := hB0.cells4
        go_wp2_with fail
        refine (h3 _ hc hc').mono ?_
        rintro e w3 ⟨rfl, n3, hn3⟩
        have b3 : Below w2.heap.size w2 w3 := by rw [hn3]; exact below_drewN (Below.refl _ _) n3
        clear hn3
        replace ha := ha.below b3
        replace hb := hb.below b3
        replace hc := hc.below b3
        replace hd := hd.below b3
        replace ha' := ha'.below b3
        replace hb' := hb'.below b3
        replace hc' := hc'.below b3
        replace hd' := hd'.below b3
        replace hA := hA.below b3 hA.lt
        replace hB0 := hB0.below b3 hB0.lt
        replace hB := hB.trans (b3.mono hB.size)
        clear c3_hA_0 c3_hA_1 c3_hA_2 c3_hA_3 c3_hB0_0 c3_hB0_1 c3_hB0_2 c3_hB0_3
        obtain ⟨c4_hA_0, c4_hA_1, c4_hA_2, c4_hA_3⟩ := hA.cells4
        obtain ⟨c4_hB0_0, c4_hB0_1, c4_hB0_2, c4_hB0_3⟩ := hB0.cells4
        go_wp2
        go_ret
        exact ⟨rfl, hB⟩
      · go_enter Try.func14, Try.ntmps14
        go_wp2_with fail
        rw [← hW'.out.1, ← hW'.out.2]
        refine (h1 _ ha ha').mono ?_
        rintro e w1 ⟨rfl, n1, hn1⟩
        have b1 : Below W0.heap.size W0 w1 := by rw [hn1]; exact below_drewN (Below.refl _ _) n1
        clear hn1
        replace ha := ha.below b1
        replace hb := hb.below b1
        replace hc := hc.below b1
        replace hd := hd.below b1
        replace ha' := ha'.below b1
        replace hb' := hb'.below b1
        replace hc' := hc'.below b1
        replace hd' := hd'.below b1
        replace hA := hA.below b1 hA.lt
        replace hB0 := hB0.below b1 hB0.lt
        replace hB := hB.trans (b1.mono hB.size)
        clear c1_hA_0 c1_hA_1 c1_hA_2 c1_hA_3 c1_hB0_0 c1_hB0_1 c1_hB0_2 c1_hB0_3
        obtain ⟨c2_hA_0, c2_hA_1, c2_hA_2, c2_hA_3⟩ := hA.cells4
        obtain ⟨c2_hB0_0, c2_hB0_1, c2_hB0_2, c2_hB0_3⟩ := hB0.cells4
        go_wp2_with fail
        refine (h2 _ hb hb').mono ?_
        rintro e w2 ⟨rfl, n2, hn2⟩
        have b2 : Below w1.heap.size w1 w2 := by rw [hn2]; exact below_drewN (Below.refl _ _) n2
        clear hn2
        replace ha := ha.below b2
        replace hb := hb.below b2
        replace hc := hc.below b2
        replace hd := hd.below b2
        replace ha' := ha'.below b2
        replace hb' := hb'.below b2
        replace hc' := hc'.below b2
        replace hd' := hd'.below b2
        replace hA := hA.below b2 hA.lt
        replace hB0 := hB0.below b2 hB0.lt
        replace hB := hB.trans (b2.mono hB.size)
        clear c2_hA_0 c2_hA_1 c2_hA_2 c2_hA_3 c2_hB0_0 c2_hB0_1 c2_hB0_2 c2_hB0_3
        obtain ⟨c3_hA_0, c3_hA_1, c3_hA_2, c3_hA_3⟩ := hA.cells4
        obtain ⟨c3_hB0_0, c3_hB0_1, c3_hB0_2, c3_hB0_3⟩ := hB0.cells4
        go_wp2_with fail
        refine (h3 _ hc hc').mono ?_
        rintro e w3 ⟨rfl, n3, hn3⟩
        have b3 : Below w2.heap.size w2 w3 := by rw [hn3]; exact below_drewN (Below.refl _ _) n3
        clear hn3
        replace ha := ha.below b3
        replace hb := hb.below b3
        replace hc := hc.below b3
        replace hd := hd.below b3
        replace ha' := ha'.below b3
        replace hb' := hb'.below b3
        replace hc' := hc'.below b3
        replace hd' := hd'.below b3
        replace hA := hA.below b3 hA.lt
        replace hB0 := hB0.below b3 hB0.lt
        replace hB := hB.trans (b3.mono hB.size)
        clear c3_hA_0 c3_hA_1 c3_hA_2 c3_hA_3 c3_hB0_0 c3_hB0_1 c3_hB0_2 c3_hB0_3
        obtain ⟨c4_hA_0, c4_hA_1, c4_hA_2, c4_hA_3⟩ := hA.cells4
        obtain ⟨c4_hB0_0, c4_hB0_1, c4_hB0_2, c4_hB0_3⟩ := hB0.cells4
        go_wp2_with fail
        refine (h4 _ hd hd').mono ?_
        rintro e w4 ⟨rfl, n4, hn4⟩
        have b4 : Below w3.heap.size w3 w4 := by rw [hn4]; exact below_drewN (Below.refl _ _) n4
        clear hn4
        replace ha := ha.below b4
        replace hb := hb.below b4
        replace hc := hc.below b4
        replace hd := hd.below b4
        replace ha' := ha'.below b4
        replace hb' := hb'.below b4
        replace hc' := hc'.below b4
        replace hd' := hd'.below b4
        replace hA := hA.below b4 hA.lt
        replace hB0 := hB0.below b4 hB0.lt
        replace hB := hB.trans (b4.mono hB.size)
        clear c4_hA_0 c4_hA_1 c4_hA_2 c4_hA_3 c4_hB0_0 c4_hB0_1 c4_hB0_2 c4_hB0_3
        obtain ⟨c5_hA_0, c5_hA_1, c5_hA_2, c5_hA_3⟩ := hA.cells4
        obtain ⟨c5_hB0_0, c5_hB0_1, c5_hB0_2, c5_hB0_3⟩ := hB0.cells4
        go_wp2
        go_ret
        exact ⟨rfl, hB⟩
theorem alive17_vals : stErr 1 0 0 false 0 [5, 0] [7, 7] [2, -1] = 0 ∧ stWs 1 0 0 false 0 [5, 0] [7, 7] [2, -1] = [3, 1] ∧ stMs 1 0 0 false 0 [5, 0] [7, 7] [2, -1] = [2, -1] ∧ stErr 1 0 0 false 0 [5] [] [] = 5 ∧ stErr 0 1 0 false 0 [] [] [] = 1 := by decide +kernel
theorem i64list : True := trivial
theorem alive_box (w : World) : ∃ W, W = (((w.alloc (.cells #[.int .i64 1, .int .i64 0, .int .i64 0, .bool false] 23)).alloc (.cells #[.int .i64 5, .int .i64 0] 2)).alloc (.cells #[.int .i64 7, .int .i64 7] 2)).alloc (.cells #[.int .i64 2, .int .i64 (-1)] 2) ∧
    Blk W w.heap.size 23 #[.int .i64 1, .int .i64 0, .int .i64 0, .bool false] ∧ IsI W (.slice (some ⟨w.heap.size + 1, 0, none⟩) 2 2) [5, 0] ∧ IsI W (.slice (some ⟨w.heap.size + 1 + 1, 0, none⟩) 2 2) [7, 7] ∧ IsI W (.slice (some ⟨w.heap.size + 1 + 1 + 1, 0, none⟩) 2 2) [2, -1] ∧ Below w.heap.size w W := by
  obtain ⟨w1, h1⟩ : ∃ w1, w1 = w.alloc (.cells #[.int .i64 1, .int .i64 0, .int .i64 0, .bool false] 23) := ⟨_, rfl⟩
  have z1 : w1.heap.size = w.heap.size + 1 := by rw [h1, World.size_alloc]
  have B1 : Below w.heap.size w w1 := by rw [h1]; exact (Below.refl _ w).alloc (Nat.le_refl _) _
  have M1 : Blk w1 w.heap.size 23 #[.int .i64 1, .int .i64 0, .int .i64 0, .bool false] := by rw [h1]; exact Blk.new w _ _
  have f1 := IsI.fresh w1 2 [5, 0] (by simp)
  obtain ⟨w2, h2⟩ : ∃ w2, w2 = w1.alloc (.cells (is [5, 0]).toArray 2) := ⟨_, rfl⟩
  have b2 : Below w1.heap.size w1 w2 := by rw [h2]; exact (Below.refl _ w1).alloc (Nat.le_refl _) _
  rw [← h2] at f1
  have z2 : w2.heap.size = w1.heap.size + 1 := by rw [h2, World.size_alloc]
  have f2 := IsI.fresh w2 2 [7, 7] (by simp)
  obtain ⟨w3, h3⟩ : ∃ w3, w3 = w2.alloc (.cells (is [7, 7]).toArray 2) := ⟨_, rfl⟩
  have b3 : Below w2.heap.size w2 w3 := by rw [h3]; exact (Below.refl _ w2).alloc (Nat.le_refl _) _
  rw [← h3] at f2
  have z3 : w3.heap.size = w2.heap.size + 1 := by rw [h3, World.size_alloc]
  have f3 := IsI.fresh w3 2 [2, -1] (by simp)
  obtain ⟨w4, h4⟩ : ∃ w4, w4 = w3.alloc (.cells (is [2, -1]).toArray 2) := ⟨_, rfl⟩
  have b4 : Below w3.heap.size w3 w4 := by rw [h4]; exact (Below.refl _ w3).alloc (Nat.le_refl _) _
  rw [← h4] at f3
  have M4 := ((M1.below b2 M1.lt).below b3 (by omega)).below b4 (by omega)
  have f1 := (f1.below b3).below b4
  have f2 := f2.below b4
  refine ⟨w4, ?_, M4, ?_, ?_, ?_, ((B1.trans (b2.mono B1.size)).trans (b3.mono (by omega))).trans (b4.mono (by omega))⟩
  · rw [h4, h3, h2, h1]; rfl
  · rw [← z1]; exact f1
  · rw [← z1, ← z2]; exact f2
  · rw [← z1, ← z2, ← z3]; exact f3
theorem sl1 (w : World) (x : Int) : ∃ W, W = w.alloc (.cells #[.int .i64 x] 2) ∧ IsI W (.slice (some ⟨w.heap.size, 0, none⟩) 1 1) [x] ∧ Below w.heap.size w W :=
  ⟨_, rfl, IsI.fresh w 2 [x] (by simp), (Below.refl _ w).alloc (Nat.le_refl _) _⟩
theorem IsI.frm2 {w : World} {v : Value} {a b : Int} (h : IsI w v [a, b]) : ∃ ad c, v = .slice (some ad) 2 c := by
  obtain ⟨A, c, rfl, h1, h2, h3⟩ := h
  obtain ⟨ad, rfl, _, _⟩ := is_cell h3 (k := 0) (by simp)
  exact ⟨ad, c, rfl⟩
set_option maxRecDepth 100000 in
set_option maxHeartbeats 4000000 in
theorem alive17_any (w : World) : Calls Try.prog 9 #[] w fun e w' => e = .returned (.bool true) ∧ Below w.heap.size w w' := by
  obtain ⟨e1, e2, e3, e4, e5⟩ := alive17_vals
  have i0 : ∀ x : Int, -10 ≤ x → x ≤ 10 → In64 x := fun x h1 h2 => by unfold In64; omega
  have hA := fun v w h => Step_all 1 0 0 0 false v [5, 0] [7, 7] [] [2, -1] w h (by simp) (i0 _ (by omega) (by omega)) (i0 _ (by omega) (by omega)) (i0 _ (by omega) (by omega)) (AllIn.of_mem (by simp [In64])) (AllIn.of_mem (by simp [In64])) (AllIn.of_mem (by simp [In64]))
  have hC := fun v w h => Step_all 1 0 0 0 false v [5] [] [] [] w h (by simp) (i0 _ (by omega) (by omega)) (i0 _ (by omega) (by omega)) (i0 _ (by omega) (by omega)) (AllIn.of_mem (by simp [In64])) AllIn.nil AllIn.nil
  have hD := fun v w h => Step_all 0 1 0 0 false v [] [] [] [] w h (by simp) (i0 _ (by omega) (by omega)) (i0 _ (by omega) (by omega)) (i0 _ (by omega) (by omega)) AllIn.nil AllIn.nil AllIn.nil
  have hR := fun w => right_any 1 0 0 0 false w
  rw [show rightM 1 0 0 0 = true from by decide +kernel] at hR
  rw [e1, e2, e3] at hA
  rw [stWs_err (by rw [e4]; decide), stMs_err (by rw [e4]; decide), e4] at hC
  rw [stWs_err (by rw [e5]; decide), stMs_err (by rw [e5]; decide), e5] at hD
  clear e1 e2 e3 e4 e5 i0
  have mS := i64list
  obtain ⟨W0, hW, hM, hx, hy, hz, hB⟩ := alive_box w
  obtain ⟨g, hg⟩ : ∃ g, g = w.heap.size := ⟨_, rfl⟩
  have hW' := Lib.hid (And.intro hW hg)
  rw [← hg] at hM hx hy hz
  clear hW hg mS
  obtain ⟨c1_hM_0, c1_hM_1, c1_hM_2, c1_hM_3⟩ := hM.cells4
  go_enter Try.func9, Try.ntmps9
  go_wp2_with fail
  rw [← hW'.out.1, ← hW'.out.2]
  refine (hA _ _ ⟨_, _, _, _, rfl, hx, hy, IsI.nil _, hz⟩).mono ?_
  rintro e w1 ⟨v1, rfl, ⟨a1, a2, a3, a4, rfl, k1, k2, k3, k4⟩, b1⟩
  replace hM := hM.below b1 hM.lt
  replace hB := hB.trans (b1.mono hB.size)
  clear c1_hM_0 c1_hM_1 c1_hM_2 c1_hM_3
  obtain ⟨c2_hM_0, c2_hM_1, c2_hM_2, c2_hM_3⟩ := hM.cells4
  obtain ⟨A3, C3, rfl, _⟩ := k3
  obtain ⟨A4, C4, rfl, _⟩ := k4
  obtain ⟨d1, l1, rfl⟩ := k1.frm2
  obtain ⟨d2, l2, rfl⟩ := k2.frm2
  obtain ⟨V1, eV, hL, bV1⟩ := box1 w1 26 #[.slice (some d1) 2 l1, .slice (some d2) 2 l2, .slice A3 0 C3, .slice A4 0 C4]
  obtain ⟨X1, eX⟩ : ∃ X, X = w1.heap.size := ⟨_, rfl⟩
  rw [← eX] at hL
  have EV1 := Lib.hid (And.intro eV eX)
  clear eV eX
  go_upto_region 3 with fail
  rw [← EV1.out.1, ← EV1.out.2]
  replace hM := hM.below bV1 hM.lt
  replace k1 := k1.below bV1
  replace k2 := k2.below bV1
  replace hB := hB.trans (bV1.mono hB.size)
  clear c2_hM_0 c2_hM_1 c2_hM_2 c2_hM_3
  obtain ⟨c3_hM_0, c3_hM_1, c3_hM_2, c3_hM_3⟩ := hM.cells4
  clear c3_hM_0 c3_hM_1 c3_hM_2 c3_hM_3
  obtain ⟨c4_hM_0, c4_hM_1, c4_hM_2, c4_hM_3⟩ := hM.cells4
  obtain ⟨c4_hL_0, c4_hL_1, c4_hL_2, c4_hL_3⟩ := hL.cells4
  obtain ⟨V2, eV, hs9, bV2⟩ := sl1 V1 5
  obtain ⟨X2, eX⟩ : ∃ X, X = V1.heap.size := ⟨_, rfl⟩
  rw [← eX] at hs9
  have EV2 := Lib.hid (And.intro eV eX)
  clear eV eX
  replace hM := hM.below bV2 hM.lt
  replace k1 := k1.below bV2
  replace k2 := k2.below bV2
  replace hL := hL.below bV2 hL.lt
  replace hB := hB.trans (bV2.mono hB.size)
  obtain ⟨c5_hM_0, c5_hM_1, c5_hM_2, c5_hM_3⟩ := hM.cells4
  obtain ⟨c5_hL_0, c5_hL_1, c5_hL_2, c5_hL_3⟩ := hL.cells4
  go_wp2_with fail
  rw [← EV2.out.1, ← EV2.out.2]
  refine (hC _ _ ⟨_, _, _, _, rfl, hs9, IsI.nil _, IsI.nil _, IsI.nil _⟩).mono ?_
  rintro e w2 ⟨v2, rfl, ⟨c1, c2, c3, c4, rfl, ⟨Ac1, Cc1, rfl, _⟩, ⟨Ac2, Cc2, rfl, _⟩, ⟨Ac3, Cc3, rfl, _⟩, ⟨Ac4, Cc4, rfl, _⟩⟩, b2⟩
  replace hM := hM.below b2 hM.lt
  replace k1 := k1.below b2
  replace k2 := k2.below b2
  replace hL := hL.below b2 hL.lt
  replace hs9 := hs9.below b2
  replace hB := hB.trans (b2.mono hB.size)
  clear c4_hM_0 c4_hM_1 c4_hM_2 c4_hM_3 c4_hL_0 c4_hL_1 c4_hL_2 c4_hL_3 c5_hM_0 c5_hM_1 c5_hM_2 c5_hM_3 c5_hL_0 c5_hL_1 c5_hL_2 c5_hL_3
  obtain ⟨c6_hM_0, c6_hM_1, c6_hM_2, c6_hM_3⟩ := hM.cells4
  obtain ⟨c6_hL_0, c6_hL_1, c6_hL_2, c6_hL_3⟩ := hL.cells4
  obtain ⟨V3, eV, hL2, bV3⟩ := box1 w2 26 #[.slice Ac1 0 Cc1, .slice Ac2 0 Cc2, .slice Ac3 0 Cc3, .slice Ac4 0 Cc4]
  obtain ⟨X3, eX⟩ : ∃ X, X = w2.heap.size := ⟨_, rfl⟩
  rw [← eX] at hL2
  have EV3 := Lib.hid (And.intro eV eX)
  clear eV eX
  go_upto_region 4 with fail
  rw [← EV3.out.1, ← EV3.out.2]
  replace hM := hM.below bV3 hM.lt
  replace k1 := k1.below bV3
  replace k2 := k2.below bV3
  replace hL := hL.below bV3 hL.lt
  replace hs9 := hs9.below bV3
  replace hB := hB.trans (bV3.mono hB.size)
  clear c6_hM_0 c6_hM_1 c6_hM_2 c6_hM_3 c6_hL_0 c6_hL_1 c6_hL_2 c6_hL_3
  obtain ⟨c7_hM_0, c7_hM_1, c7_hM_2, c7_hM_3⟩ := hM.cells4
  obtain ⟨c7_hL_0, c7_hL_1, c7_hL_2, c7_hL_3⟩ := hL.cells4
  clear c7_hM_0 c7_hM_1 c7_hM_2 c7_hM_3 c7_hL_0 c7_hL_1 c7_hL_2 c7_hL_3
  obtain ⟨c8_hM_0, c8_hM_1, c8_hM_2, c8_hM_3⟩ := hM.cells4
  obtain ⟨c8_hL_0, c8_hL_1, c8_hL_2, c8_hL_3⟩ := hL.cells4
  obtain ⟨c8_hL2_0, c8_hL2_1, c8_hL2_2, c8_hL2_3⟩ := hL2.cells4
  go_wp2_with fail
  refine (hD _ _ (IsR.nils _)).mono ?_
  rintro e w3 ⟨v3, rfl, ⟨d1, d2, d3, d4, rfl, ⟨Ad1, Cd1, rfl, _⟩, ⟨Ad2, Cd2, rfl, _⟩, ⟨Ad3, Cd3, rfl, _⟩, ⟨Ad4, Cd4, rfl, _⟩⟩, b3⟩
  replace hM := hM.below b3 hM.lt
  replace k1 := k1.below b3
  replace k2 := k2.below b3
  replace hL := hL.below b3 hL.lt
  replace hs9 := hs9.below b3
  replace hL2 := hL2.below b3 hL2.lt
  replace hB := hB.trans (b3.mono hB.size)
  clear c8_hM_0 c8_hM_1 c8_hM_2 c8_hM_3 c8_hL_0 c8_hL_1 c8_hL_2 c8_hL_3 c8_hL2_0 c8_hL2_1 c8_hL2_2 c8_hL2_3
  obtain ⟨c9_hM_0, c9_hM_1, c9_hM_2, c9_hM_3⟩ := hM.cells4
  obtain ⟨c9_hL_0, c9_hL_1, c9_hL_2, c9_hL_3⟩ := hL.cells4
  obtain ⟨c9_hL2_0, c9_hL2_1, c9_hL2_2, c9_hL2_3⟩ := hL2.cells4
  obtain ⟨V4, eV, hL3, bV4⟩ := box1 w3 26 #[.slice Ad1 0 Cd1, .slice Ad2 0 Cd2, .slice Ad3 0 Cd3, .slice Ad4 0 Cd4]
  obtain ⟨X4, eX⟩ : ∃ X, X = w3.heap.size := ⟨_, rfl⟩
  rw [← eX] at hL3
  have EV4 := Lib.hid (And.intro eV eX)
  clear eV eX
  go_upto_region 5 with fail
  rw [← EV4.out.1, ← EV4.out.2]
  replace hM := hM.below bV4 hM.lt
  replace k1 := k1.below bV4
  replace k2 := k2.below bV4
  replace hL := hL.below bV4 hL.lt
  replace hs9 := hs9.below bV4
  replace hL2 := hL2.below bV4 hL2.lt
  replace hB := hB.trans (bV4.mono hB.size)
  clear c9_hM_0 c9_hM_1 c9_hM_2 c9_hM_3 c9_hL_0 c9_hL_1 c9_hL_2 c9_hL_3 c9_hL2_0 c9_hL2_1 c9_hL2_2 c9_hL2_3
  obtain ⟨c10_hM_0, c10_hM_1, c10_hM_2, c10_hM_3⟩ := hM.cells4
  obtain ⟨c10_hL_0, c10_hL_1, c10_hL_2, c10_hL_3⟩ := hL.cells4
  obtain ⟨c10_hL2_0, c10_hL2_1, c10_hL2_2, c10_hL2_3⟩ := hL2.cells4
  clear c10_hM_0 c10_hM_1 c10_hM_2 c10_hM_3 c10_hL_0 c10_hL_1 c10_hL_2 c10_hL_3 c10_hL2_0 c10_hL2_1 c10_hL2_2 c10_hL2_3
  obtain ⟨c11_hM_0, c11_hM_1, c11_hM_2, c11_hM_3⟩ := hM.cells4
  obtain ⟨c11_hL_0, c11_hL_1, c11_hL_2, c11_hL_3⟩ := hL.cells4
  obtain ⟨c11_hL2_0, c11_hL2_1, c11_hL2_2, c11_hL2_3⟩ := hL2.cells4
  obtain ⟨c11_hL3_0, c11_hL3_1, c11_hL3_2, c11_hL3_3⟩ := hL3.cells4
  obtain ⟨A9, E9, e9, _, _, r9⟩ := k1
  injection e9 with e9a e9b e9c
  subst e9a e9c
  obtain ⟨_, e9, _, x0⟩ := is_cell r9 (k := 0) (by simp)
  cases e9
  obtain ⟨_, e9, _, x1⟩ := is_cell r9 (k := 1) (by simp)
  cases e9
  obtain ⟨A8, E8, e8, _, _, r8⟩ := k2
  injection e8 with e8a e8b e8c
  subst e8a e8c
  obtain ⟨_, e8, _, y0⟩ := is_cell r8 (k := 0) (by simp)
  cases e8
  rw [show Addr.add d1 0 = d1 from by simp [Addr.add]] at x0
  rw [show Addr.add d2 0 = d2 from by simp [Addr.add]] at y0
  rw [Addr.add, if_neg (by omega)] at x1
  clear r9 r8
  go_wp2_with fail
  refine (hR _).mono ?_
  rintro e w9 ⟨rfl, b9⟩
  go_wp2
  go_ret
  exact ⟨rfl, hB.trans (b9.mono hB.size)⟩
end Go.Proofs.Ytbnnonmkkkhepaa
