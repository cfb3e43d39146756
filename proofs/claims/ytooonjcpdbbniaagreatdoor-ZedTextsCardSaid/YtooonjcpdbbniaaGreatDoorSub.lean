/- nat.Sub: the difference of two numbers. -/
import Derived.Test.YtooonjcpdbbniaaGreatDoorAdd
import Derived.Test.YtooonjcpdbbniaaGreatDoorApp
import Derived.Test.YtooonjcpdbbniaaGreatDoorRef2
import Derived.Test.YtooonjcpdbbniaaGreatDoorMul
import Derived.RangeFuncBox
import Derived.RangeFuncWrites
import Derived.Maps.AppendAt
import Derived.Outline
import Derived.Deep.DeepMust
namespace Go.Proofs.YtooonjcpdbbniaaGreatDoor
open Go.RowKit Go.Shelf
attribute [local go_sem] Oper.semAt_some

def subF (s : List Nat × Nat) (p : Nat × Nat) : List Nat × Nat := (s.1 ++ [(p.1 + W64 - p.2 - s.2) % W64], if p.1 < p.2 + s.2 then 1 else 0)
def subS (pre : List Pair2) : List Nat × Nat := (pre.map (·.1)).foldl subF ([], 0)
theorem subS_snoc (pre : List Pair2) (x : Pair2) : subS (pre ++ [x]) = subF (subS pre) x.1 := by simp [subS]
theorem subS_ok (pre : List Pair2) : (subS pre).1.length = pre.length ∧ (subS pre).2 ≤ 1 ∧ Bd (subS pre).1 := by
  refine snoc_ind (p := fun pre => (subS pre).1.length = pre.length ∧ (subS pre).2 ≤ 1 ∧ Bd (subS pre).1) ⟨rfl, by simp [subS], Bd.nil⟩ ?_ pre
  · intro pre x ⟨h1, h2, h3⟩
    rw [subS_snoc]
    refine ⟨by simp [subF, h1], ?_, h3.snoc (Nat.mod_lt _ W64_pos)⟩
    simp only [subF]
    split <;> omega
theorem subTo (a b : List Nat) (ha : Bd a) (hb : Bd b) (k : Nat) : num (((pairsTo a b k).foldl subF ([], 0)).1) + num (b.take k) = num (a.take k) + W64 ^ k * ((pairsTo a b k).foldl subF ([], 0)).2 ∧ ((pairsTo a b k).foldl subF ([], 0)).1.length = k ∧ ((pairsTo a b k).foldl subF ([], 0)).2 ≤ 1 ∧ Bd ((pairsTo a b k).foldl subF ([], 0)).1 := by
  induction k with
  | zero => simp [pairsTo, num, Bd.nil]
  | succ k ih =>
    obtain ⟨h1, h2, h3, h4⟩ := ih
    rw [pairsTo_succ, List.foldl_append, List.foldl_cons, List.foldl_nil]
    generalize (pairsTo a b k).foldl subF ([], 0) = s at *
    refine ⟨?_, by simp [subF, h2], by simp only [subF]; split <;> omega, h4.snoc (Nat.mod_lt _ W64_pos)⟩
    simp only [subF]
    rw [num_append, num_single, h2, num_take_succ, num_take_succ, Nat.pow_succ]
    have hx := ha.lat k
    have hy := hb.lat k
    generalize lat a k = x at *
    generalize lat b k = y at *
    have key : (x + W64 - y - s.2) % W64 + y + s.2 = x + W64 * (if x < y + s.2 then 1 else 0) := by
      split
      · rw [Nat.mod_eq_of_lt (by omega)]; omega
      · have : x + W64 - y - s.2 = (x - y - s.2) + W64 := by omega
        rw [this, Nat.add_mod_right, Nat.mod_eq_of_lt (by omega)]; omega
    have e := congrArg (W64 ^ k * ·) key
    simp only [Nat.mul_add, ← Nat.mul_assoc] at e
    omega
theorem subS_num {a b : List Nat} (ha : Bd a) (hb : Bd b) (hle : num b ≤ num a) {ys : List Pair2} (h : ys.map (·.1) = pairsTo a b (max a.length b.length)) : num (subS ys).1 = num a - num b := by
  obtain ⟨h1, h2, h3, h4⟩ := subTo a b ha hb (max a.length b.length)
  unfold subS
  rw [h]
  rw [num_take_ge _ _ (by omega), num_take_ge _ _ (by omega)] at h1
  have h5 := num_lt _ h4
  rw [h2] at h5
  generalize (pairsTo a b (max a.length b.length)).foldl subF ([], 0) = s at *
  have : s.2 = 0 ∨ s.2 = 1 := by omega
  rcases this with e | e <;> rw [e] at h1 <;> omega

set_option maxHeartbeats 400000 in
theorem sub_less (va vb : Value) (a b : Nat) (w : World) (ha : IsN w va a) (hb : IsN w vb b) (h : a < b) :
    Calls Tryz.prog 36 #[va, vb] w fun e w' => e = .returned (.tuple #[.slice none 0 0, .int .i64 2]) ∧ Below w.heap.size w w' := by
  have hc := cmp_any va vb a b w ha hb
  rw [cmpI_lt (by omega)] at hc
  have C := Lib.hid hc
  clear hc
  obtain ⟨A, ca, rfl, hac, hca, hba, hra⟩ := ha
  obtain ⟨B, cb, rfl, hbc, hcb, hbb, hrb⟩ := hb
  go_enter Tryz.func36, Tryz.ntmps36
  go_wp2_with (with_reducible refine C.out.mono ?_; rintro e w1 ⟨rfl, hb1⟩)
  go_ret2
  exact ⟨rfl, hb1⟩

set_option maxRecDepth 100000 in
set_option maxHeartbeats 2000000 in
theorem sub_in (va vb : Value) (na nb : Nat) (w : World) (ha : IsN w va na) (hb : IsN w vb nb) (hla : (limbs na).length ≤ 1000000) (hlb : (limbs nb).length ≤ 1000000) (hle : nb ≤ na) :
    CallsIn Fence.wide 9 Tryz.prog 36 #[va, vb] w fun e w' => ∃ v', e = .returned (.tuple #[v', .int .i64 0]) ∧ IsN w' v' (na - nb) ∧ Below w.heap.size w w' := by
  have C := Lib.hid (callsIn_wide (n := 8) |>.2 (cmp_any va vb na nb w ha hb))
  have hcmp : ¬ (cmpI (na : Int) (nb : Int) < 0) := by unfold cmpI; split <;> (try split) <;> omega
  have hcm2 : decide (cmpI (na : Int) (nb : Int) < 0) = false := decide_eq_false hcmp
  have hle' : num (limbs nb) ≤ num (limbs na) := by rw [num_limbs, num_limbs]; exact hle
  have ha0 := ha
  have hb0 := hb
  obtain ⟨A, ca, rfl, hac, hca, hba, hra'⟩ := ha
  obtain ⟨B, cb, rfl, hbc, hcb, hbb, hrb'⟩ := hb
  obtain ⟨i0, hi, hz0, hz1, hz2⟩ := info_parts info_u64
  rw [show na - nb = num (limbs na) - num (limbs nb) from by rw [num_limbs, num_limbs]]
  generalize hA : limbs na = a at *
  generalize hB : limbs nb = b at *
  clear hA hB hle
  refine callsIn_of_wp_marks Tryz.func36 rfl trivial ?_ rfl
  simp only [Tryz.ntmps36, List.size_toArray, List.length_cons, List.length_nil, Nat.reduceAdd, Nat.reduceSub, Array.replicate_succ, Array.replicate_zero, List.push_toArray, List.append_toArray, List.nil_append, List.cons_append]
  gi_wp2_with fail
  refine ⟨wide_fn _, C.out.mono ?_⟩
  rintro e u ⟨rfl, hwu⟩
  have hra := (hra'.below hwu).more hwu.size
  have hrb := (hrb'.below hwu).more hwu.size
  gi_wp2_with (first | (refine ⟨trivial, ?_⟩; gi_at_call 54; refine (pairs_in _ _ _ _ _ _ _ _).mono ?_; rintro e w' ⟨rfl, rfl⟩))
  obtain ⟨W0, hW0⟩ : ∃ W0, W0 = ((((u.alloc (.cells #[.slice none 0 0] 23)).alloc (.cells #[.int .u64 0] 44)).alloc (.cells #[.slice A a.length ca] 23)).alloc (.cells #[.slice B b.length cb] 23)).alloc (.cells #[.func (.func 85) #[] #[]] 104) := ⟨_, rfl⟩
  have hsz : W0.heap.size = u.heap.size + 5 := by rw [hW0]; simp
  have bO : Boxed W0 u.heap.size 23 (.slice none 0 0) := by rw [hW0]; exact ((((Boxed.new u _ _).alloc _).alloc _).alloc _).alloc _
  have bC : Boxed W0 (u.heap.size + 1) 44 (.int .u64 0) := by rw [hW0]; have := Boxed.new (u.alloc (.cells #[.slice none 0 0] 23)) 44 (.int .u64 0); rw [World.size_alloc] at this; exact ((this.alloc _).alloc _).alloc _
  have bA : Boxed W0 (u.heap.size + 2) 23 (.slice A a.length ca) := by rw [hW0]; have := Boxed.new ((u.alloc (.cells #[.slice none 0 0] 23)).alloc (.cells #[.int .u64 0] 44)) 23 (.slice A a.length ca); simp only [World.size_alloc] at this; exact (this.alloc _).alloc _
  have bB : Boxed W0 (u.heap.size + 3) 23 (.slice B b.length cb) := by rw [hW0]; have := Boxed.new (((u.alloc (.cells #[.slice none 0 0] 23)).alloc (.cells #[.int .u64 0] 44)).alloc (.cells #[.slice A a.length ca] 23)) 23 (.slice B b.length cb); simp only [World.size_alloc] at this; exact this.alloc _
  have bF : Boxed W0 (u.heap.size + 4) 104 (.func (.func 85) #[] #[]) := by rw [hW0]; have := Boxed.new ((((u.alloc (.cells #[.slice none 0 0] 23)).alloc (.cells #[.int .u64 0] 44)).alloc (.cells #[.slice A a.length ca] 23)).alloc (.cells #[.slice B b.length cb] 23)) 104 (.func (.func 85) #[] #[]); simp only [World.size_alloc] at this; exact this
  have hB0 : Below u.heap.size u W0 := by rw [hW0]; exact (((((Below.refl _ u).alloc (Nat.le_refl _) _).alloc (by simp) _).alloc (by simp; omega) _).alloc (by simp; omega) _).alloc (by simp; omega) _
  rw [← hW0]
  clear hW0
  refine wpIn_rangeFunc_ownG (n := 9) rfl (by omega) (gf := 86) (lb := #[.pointer (some ⟨u.heap.size + 2, 0, none⟩), .pointer (some ⟨u.heap.size + 2 + 1, 0, none⟩), .pointer (some ⟨u.heap.size + 2 + 2, 0, none⟩)]) rfl trivial (enters_of Tryz.func86 (by kernel_rfl) rfl)
    (pairs_stops (u.heap.size + 2) u.heap.size ca cb A B a b (by omega) (by omega) hba hbb W0 (by omega) (by omega) bA.cell bB.cell bF.cell (hra.below hB0) (hrb.below hB0)) KR.trans (KR.put (by omega) (by omega)) (Below.refl _ _) (fun _ => rfl)
    (fun pre W => (∃ v, Boxed W u.heap.size 23 v ∧ W.ownsRow W0.heap.size 44 1 v (subS pre).1.length (us (subS pre).1) ∧ True) ∧ Boxed W (u.heap.size + 1) 44 (.int .u64 ((subS pre).2 : Nat)) ∧ (Below u.heap.size u W ∧ W0.heap.size ≤ W.heap.size))
    (fun _ _ _ => False)
    ?oI ?oX ?st ?a1 ?assign ?body ?done ?stop
  case assign =>
    intro l x W K hK
    gi_wp2
    exact hK
  case oI => exact OwnFrom.and (Own.from (holdsRow_own W0.heap.size u.heap.size 23 44 1 (fun pre => (subS pre).1.length) (fun pre => us (subS pre).1) (fun _ _ => True)) _) (OwnFrom.and (Own.from (show Own (fun (s : List Pair2) (W : World) => Boxed W (u.heap.size + 1) 44 (.int .u64 ((subS s).2 : Nat))) from fun s X Y row hs hg hr => boxed_kept hs hg hr) _) (OwnFrom.and (ownFrom_below (by omega) (by omega)) (Own.from (show Own (fun (_ : List Pair2) (W : World) => W0.heap.size ≤ W.heap.size) from fun s X Y row hs hg hr => Nat.le_trans hs hg.size) _)))
  case oX => exact fun _ _ _ _ _ hs _ _ => hs
  case st => exact ⟨⟨_, bO, World.ownsRow_nil _ _ _ _, trivial⟩, bC, hB0, Nat.le_refl _⟩
  case body =>
    rintro l pre x W ⟨⟨v, hv, hrow, _⟩, hC, hBel, hWs⟩ hlt
    have hc := hv.cell
    have hc2 := hC.cell
    have hf2 := hC.frozen
    obtain ⟨k1, k2, k3⟩ := subS_ok pre
    have k2' : (subS pre).2 ≤ 1 := k2
    have hA := fun W => run_Sub64 x.1.1 x.1.2 (subS pre).2 k2 W
    have hsn := subS_snoc pre x
    rw [subF] at hsn
    have hsb := Nat.mod_lt (x.1.1 + W64 - x.1.2 - (subS pre).2) W64_pos
    generalize (x.1.1 + W64 - x.1.2 - (subS pre).2) % W64 = sm at hA hsn hsb
    generalize (if x.1.1 < x.1.2 + (subS pre).2 then 1 else 0) = cy at hA hsn
    have Hsn := Lib.hid hsn
    clear hsn
    have hcl := Lib.hid k1
    have hlen : pre.length ≤ 1000000 := by omega
    have hlen2 : (subS pre).1.length ≤ 1000000 := by omega
    clear k1 hlt
    have hsW : W0.heap.size ≤ W.heap.size := hWs
    have hwf := wide_fn 56
    gi_wp2_with (gi_at_builtin; go_must (refine wpListIn_append_own _ rfl _ _ 23 rfl W0.heap.size 44 i0 (.int .u64 0) 1 8 Tryz.underlying23 hi hz0 hz1 hz2 rfl (by decide) _ _ _ rfl (hrow.alloc _) ⟨W.heap.size, 0, none⟩ 1 1 [.int .u64 (sm : Nat)] rfl rfl (cell_one_new _ _ _) (by simp [Value.oneCell']) (by unfold maxLen; omega) (by omega) (by simp; omega) ?_; intro v' w1 hown' hgrow _; obtain ⟨g', cap', rfl⟩ := ownsRow_succ hown'; obtain ⟨hbl, hko⟩ := below_appended hrow hsW hgrow; have hv1 := boxed_low hv hbl (by omega); have hC1 := boxed_low hC hbl (by omega); have hc1 := hv1.cell; have hf1 := hv1.frozen; have hc1' := hC1.cell; have hf1' := hC1.frozen))
    have hsn := Hsn.out
    refine ⟨?_, ?_, ?_⟩
    · exact (hko.trans ((KeepsOthers.setCell _ _ _).trans (KeepsOthers.setCell _ _ _))).from _
    · exact ((KR.of_below hbl (by omega) (by omega)).set (by omega) (by omega) _).set (by omega) (by omega) _
    · refine ⟨⟨_, boxed_far (hv1.set _) (by omega), ?_, trivial⟩, ?_, ?_, ?_⟩
      · rw [hsn, List.length_append, List.length_singleton, us_snoc]
        exact ownsRow_setCell_below (ownsRow_setCell_below hown' (by show u.heap.size < W0.heap.size; omega) _) (by show u.heap.size + 1 < W0.heap.size; omega) _
      · rw [hsn]; exact (boxed_far hC1 (by omega)).set _
      · exact (((hBel.trans (hbl.mono (by omega))).setCell (p := ⟨u.heap.size, 0, none⟩) (by simp) _).setCell (p := ⟨u.heap.size + 1, 0, none⟩) (by simp) _)
      · simp [World.setCell]; exact Nat.le_trans (by omega) hbl.size
  case done =>
    rintro D ys W hD hys ⟨⟨v, hv, hrow, _⟩, hC, hBel, hWs⟩ hK
    have hc := hv.cell
    have hc2 := hC.cell
    obtain ⟨k1, k2, k3⟩ := subS_ok ys
    have hl2 : (subS ys).1.length ≤ 1000000 := by
      have := congrArg List.length hys
      rw [List.length_map, pairsTo_length] at this
      omega
    have hys' := Lib.hid hys
    clear hys k1
    have hres : IsL W v (subS ys).1 := IsL.of_own hrow k3
    gi_wp2_with fail
    refine ⟨wide_fn _, (callsIn_wide.2 (bare_any v _ W hres)).mono ?_⟩
    rintro e w' ⟨r, rfl, hr, rfl⟩
    rw [subS_num hba hbb hle' hys'.out] at hr
    gi_wp2
    refine ⟨by simp, .inl ⟨_, _, rfl, run_takeDeferred hK, ?_⟩⟩
    have hBB := (hwu.trans (hBel.mono hwu.size)).trans ((belowK_b (w := u) (Nat.le_refl _) W D _ (.deferred none) (by omega) hK rfl rfl).mono hwu.size)
    exact ⟨_, results_tmp2 rfl _ _ _, r, rfl, IsL.putObj hr hK rfl, hBB⟩
  case stop =>
    rintro D c pre W _ _ h _
    exact h.elim

theorem sub_any (va vb : Value) (a b : Nat) (w : World) (ha : IsN w va a) (hb : IsN w vb b) (hla : (limbs a).length ≤ 1000000) (hlb : (limbs b).length ≤ 1000000) (hle : b ≤ a) :
    Calls Tryz.prog 36 #[va, vb] w fun e w' => ∃ v', e = .returned (.tuple #[v', .int .i64 0]) ∧ IsN w' v' (a - b) ∧ Below w.heap.size w w' :=
  callsIn_wide.1 (sub_in va vb _ _ w ha hb hla hlb hle)
end Go.Proofs.YtooonjcpdbbniaaGreatDoor
