/- nat.Add: the sum of two numbers. -/
import Derived.Test.YtooonjcpdbbniaaGreatDoorPairs
import Derived.Test.YtooonjcpdbbniaaGreatDoorApp
import Derived.Test.YtooonjcpdbbniaaGreatDoorRef2
import Derived.Test.YtooonjcpdbbniaaGreatDoorMul
import Derived.RangeFuncBox
import Derived.RangeFuncWrites
import Derived.Maps.AppendAt
import Derived.Outline
import Derived.Deep.DeepMust
namespace Go.Proofs.YtooonjcpdbbniaaGreatDoor
open Go.RowKit Go.Shelf
attribute [local go_sem] Oper.semAt_some

theorem snoc_ind {α : Type} {p : List α → Prop} (h0 : p []) (h1 : ∀ l x, p l → p (l ++ [x])) : ∀ l, p l := by
  have key : ∀ n (l : List α), l.length = n → p l := by
    intro n
    induction n with
    | zero => intro l hl; rw [List.eq_nil_of_length_eq_zero hl]; exact h0
    | succ n ih =>
      intro l hl
      have hne : l ≠ [] := by rintro rfl; simp at hl
      rw [← List.dropLast_concat_getLast hne]
      exact h1 _ _ (ih _ (by simp [hl]))
  exact fun l => key _ l rfl
theorem wide_fn (f : FuncId) : Fence.wide.fn f := trivial
def addF (s : List Nat × Nat) (p : Nat × Nat) : List Nat × Nat := (s.1 ++ [(p.1 + p.2 + s.2) % W64], (p.1 + p.2 + s.2) / W64)
def addS (pre : List Pair2) : List Nat × Nat := (pre.map (·.1)).foldl addF ([], 0)
theorem addS_snoc (pre : List Pair2) (x : Pair2) : addS (pre ++ [x]) = addF (addS pre) x.1 := by simp [addS]
theorem addS_ok (pre : List Pair2) : (addS pre).1.length = pre.length ∧ (addS pre).2 ≤ 1 ∧ Bd (addS pre).1 := by
  refine snoc_ind (p := fun pre => (addS pre).1.length = pre.length ∧ (addS pre).2 ≤ 1 ∧ Bd (addS pre).1) ⟨rfl, by simp [addS], Bd.nil⟩ ?_ pre
  · intro pre x ⟨h1, h2, h3⟩
    rw [addS_snoc]
    refine ⟨by simp [addF, h1], ?_, h3.snoc (Nat.mod_lt _ W64_pos)⟩
    have := x.2
    simp only [addF]
    have h : x.1.1 + x.1.2 + (addS pre).2 < 2 * W64 := by omega
    have := Nat.div_lt_of_lt_mul (m := x.1.1 + x.1.2 + (addS pre).2) (n := W64) (k := 2) (by omega)
    omega
theorem addTo (a b : List Nat) (k : Nat) : num (((pairsTo a b k).foldl addF ([], 0)).1) + W64 ^ k * ((pairsTo a b k).foldl addF ([], 0)).2 = num (a.take k) + num (b.take k) ∧ ((pairsTo a b k).foldl addF ([], 0)).1.length = k := by
  induction k with
  | zero => simp [pairsTo, num]
  | succ k ih =>
    obtain ⟨h1, h2⟩ := ih
    rw [pairsTo_succ, List.foldl_append, List.foldl_cons, List.foldl_nil]
    generalize (pairsTo a b k).foldl addF ([], 0) = s at *
    refine ⟨?_, by simp [addF, h2]⟩
    simp only [addF]
    rw [num_append, num_single, h2, num_take_succ, num_take_succ, Nat.pow_succ]
    have := Nat.mod_add_div (lat a k + lat b k + s.2) W64
    have e : W64 ^ k * ((lat a k + lat b k + s.2) % W64) + W64 ^ k * W64 * ((lat a k + lat b k + s.2) / W64) = W64 ^ k * (lat a k + lat b k + s.2) := by
      rw [Nat.mul_assoc, ← Nat.mul_add, this]
    simp only [Nat.mul_add] at *
    omega
theorem addS_num {a b : List Nat} {ys : List Pair2} (h : ys.map (·.1) = pairsTo a b (max a.length b.length)) : num ((addS ys).1 ++ [(addS ys).2]) = num a + num b := by
  have := addTo a b (max a.length b.length)
  rw [num_append, num_single]
  unfold addS
  rw [h, this.2]
  rw [this.1, num_take_ge _ _ (by omega), num_take_ge _ _ (by omega)]


/-- behind an append onto a row that lies from b₁ on: all below lies as it lay, and whatever is no cells -/
theorem below_appended {W w1 : World} {b₁ : Nat} {e : TypeId} {v : Value} {k : Nat} {xs : List Value} {tmp : Obj} (hrow : W.ownsRow b₁ e 1 v k xs) (hb₁ : b₁ ≤ W.heap.size) (hgrow : (W.alloc tmp).grownBy w1 v.ownBlock) :
    Below b₁ W w1 ∧ KeepsOthers W w1 := by
  refine ⟨((Below.refl b₁ W).alloc hb₁ tmp).grown hgrow (by simp; omega) fun j ej => (hrow.lt j ej).1, (KeepsOthers.alloc W tmp).trans (KeepsOthers.of_grownBy hgrow fun j o ej hj => ?_)⟩
  rcases (hrow.alloc tmp).2 with ⟨rfl, _⟩ | ⟨g, cap, cur, rfl, _, hgb, _⟩
  · simp [Value.ownBlock] at ej
  · obtain rfl : g = j := by simpa [Value.ownBlock] using ej
    rw [hgb] at hj; cases hj; rfl
theorem boxed_low {W w1 : World} {b₁ C : Nat} {t : TypeId} {u : Value} (h : Boxed W C t u) (hb : Below b₁ W w1) (hC : C < b₁) : Boxed w1 C t u := (hb.block C hC).trans h
theorem boxed_far {W : World} {C B : Nat} {t : TypeId} {u x : Value} (h : Boxed W C t u) (hne : C ≠ B) : Boxed (W.setCell ⟨B, 0, none⟩ x) C t u := (Below.heap_setCell W ⟨B, 0, none⟩ x C hne).trans h
theorem IsL.putObj {W : World} {v : Value} {l : List Nat} (h : IsL W v l) {D : Nat} {o : Obj} (hD : W.heap[D]? = some o) (ho : o.isCells = false) : IsL (W.putObj D (.deferred none)) v l := by
  obtain ⟨A, c, e, h1, h2, h3, h4⟩ := h
  refine ⟨A, c, e, h1, h2, h3, h4.1, fun hn => ?_⟩
  obtain ⟨ad, e1, e2, e3⟩ := h4.2 hn
  have hg := grownBy_putObj' W D (.deferred none)
  refine ⟨ad, e1, Nat.lt_of_lt_of_le e2 hg.size, fun j u hu => ?_⟩
  rw [← e3 j u hu]
  have hb : (ad.add j).block < W.heap.size := by rw [block_of_add]; exact e2
  refine World.cell?_of_block (hg.block _ hb (fun e => ?_))
  have hDj : D = (ad.add j).block := by injection e with e; exact e.symm
  have hc := e3 j u hu
  rw [hDj] at hD
  cases o <;> simp_all [World.cell?, Obj.isCells]

set_option maxRecDepth 100000 in
set_option maxHeartbeats 2000000 in
theorem add_in (va vb : Value) (a b : List Nat) (w : World) (ha : IsL w va a) (hb : IsL w vb b) (hla : a.length ≤ 1000000) (hlb : b.length ≤ 1000000) :
    CallsIn Fence.wide 9 Tryz.prog 35 #[va, vb] w fun e w' => ∃ v', e = .returned v' ∧ IsN w' v' (num a + num b) ∧ Below w.heap.size w w' := by
  obtain ⟨A, ca, rfl, hac, hca, hba, hra⟩ := ha
  obtain ⟨B, cb, rfl, hbc, hcb, hbb, hrb⟩ := hb
  obtain ⟨i0, hi, hz0, hz1, hz2⟩ := info_parts info_u64
  refine callsIn_of_wp_marks Tryz.func35 rfl trivial ?_ rfl
  simp only [Tryz.ntmps35, List.size_toArray, List.length_cons, List.length_nil, Nat.reduceAdd, Nat.reduceSub, Array.replicate_succ, Array.replicate_zero, List.push_toArray, List.append_toArray, List.nil_append, List.cons_append]
  gi_wp2_with (first | (refine ⟨trivial, ?_⟩; gi_at_call 54; refine (pairs_in _ _ _ _ _ _ _ _).mono ?_; rintro e w' ⟨rfl, rfl⟩))
  obtain ⟨W0, hW0⟩ : ∃ W0, W0 = ((((w.alloc (.cells #[.slice none 0 0] 23)).alloc (.cells #[.int .u64 0] 44)).alloc (.cells #[.slice A a.length ca] 23)).alloc (.cells #[.slice B b.length cb] 23)).alloc (.cells #[.func (.func 85) #[] #[]] 104) := ⟨_, rfl⟩
  have hsz : W0.heap.size = w.heap.size + 5 := by rw [hW0]; simp
  have bO : Boxed W0 w.heap.size 23 (.slice none 0 0) := by rw [hW0]; exact ((((Boxed.new w _ _).alloc _).alloc _).alloc _).alloc _
  have bC : Boxed W0 (w.heap.size + 1) 44 (.int .u64 0) := by rw [hW0]; have := Boxed.new (w.alloc (.cells #[.slice none 0 0] 23)) 44 (.int .u64 0); rw [World.size_alloc] at this; exact ((this.alloc _).alloc _).alloc _
  have bA : Boxed W0 (w.heap.size + 2) 23 (.slice A a.length ca) := by rw [hW0]; have := Boxed.new ((w.alloc (.cells #[.slice none 0 0] 23)).alloc (.cells #[.int .u64 0] 44)) 23 (.slice A a.length ca); simp only [World.size_alloc] at this; exact (this.alloc _).alloc _
  have bB : Boxed W0 (w.heap.size + 3) 23 (.slice B b.length cb) := by rw [hW0]; have := Boxed.new (((w.alloc (.cells #[.slice none 0 0] 23)).alloc (.cells #[.int .u64 0] 44)).alloc (.cells #[.slice A a.length ca] 23)) 23 (.slice B b.length cb); simp only [World.size_alloc] at this; exact this.alloc _
  have bF : Boxed W0 (w.heap.size + 4) 104 (.func (.func 85) #[] #[]) := by rw [hW0]; have := Boxed.new ((((w.alloc (.cells #[.slice none 0 0] 23)).alloc (.cells #[.int .u64 0] 44)).alloc (.cells #[.slice A a.length ca] 23)).alloc (.cells #[.slice B b.length cb] 23)) 104 (.func (.func 85) #[] #[]); simp only [World.size_alloc] at this; exact this
  have hB0 : Below w.heap.size w W0 := by rw [hW0]; exact (((((Below.refl _ w).alloc (Nat.le_refl _) _).alloc (by simp) _).alloc (by simp; omega) _).alloc (by simp; omega) _).alloc (by simp; omega) _
  rw [← hW0]
  clear hW0
  refine wpIn_rangeFunc_ownG (n := 9) rfl (by omega) (gf := 86) (lb := #[.pointer (some ⟨w.heap.size + 2, 0, none⟩), .pointer (some ⟨w.heap.size + 2 + 1, 0, none⟩), .pointer (some ⟨w.heap.size + 2 + 2, 0, none⟩)]) rfl trivial (enters_of Tryz.func86 (by kernel_rfl) rfl)
    (pairs_stops (w.heap.size + 2) w.heap.size ca cb A B a b (by omega) (by omega) hba hbb W0 (by omega) (by omega) bA.cell bB.cell bF.cell (hra.below hB0) (hrb.below hB0)) KR.trans (KR.put (by omega) (by omega)) (Below.refl _ _) (fun _ => rfl)
    (fun pre W => (∃ v, Boxed W w.heap.size 23 v ∧ W.ownsRow W0.heap.size 44 1 v (addS pre).1.length (us (addS pre).1) ∧ True) ∧ Boxed W (w.heap.size + 1) 44 (.int .u64 ((addS pre).2 : Nat)) ∧ (Below w.heap.size w W ∧ W0.heap.size ≤ W.heap.size))
    (fun _ _ _ => False)
    ?oI ?oX ?st ?a1 ?assign ?body ?done ?stop
  case assign =>
    intro l x W K hK
    gi_wp2
    exact hK
  case oI => exact OwnFrom.and (Own.from (holdsRow_own W0.heap.size w.heap.size 23 44 1 (fun pre => (addS pre).1.length) (fun pre => us (addS pre).1) (fun _ _ => True)) _) (OwnFrom.and (Own.from (show Own (fun (s : List Pair2) (W : World) => Boxed W (w.heap.size + 1) 44 (.int .u64 ((addS s).2 : Nat))) from fun s X Y row hs hg hr => boxed_kept hs hg hr) _) (OwnFrom.and (ownFrom_below (by omega) (by omega)) (Own.from (show Own (fun (_ : List Pair2) (W : World) => W0.heap.size ≤ W.heap.size) from fun s X Y row hs hg hr => Nat.le_trans hs hg.size) _)))
  case oX => exact fun _ _ _ _ _ hs _ _ => hs
  case st => exact ⟨⟨_, bO, World.ownsRow_nil _ _ _ _, trivial⟩, bC, hB0, Nat.le_refl _⟩
  case body =>
    rintro l pre x W ⟨⟨v, hv, hrow, _⟩, hC, hBel, hWs⟩ hlt
    have hc := hv.cell
    have hc2 := hC.cell
    have hf2 := hC.frozen
    obtain ⟨k1, k2, k3⟩ := addS_ok pre
    have k2' : (addS pre).2 ≤ 1 := k2
    have hA := fun W => run_Add64 x.1.1 x.1.2 (addS pre).2 k2 W
    have hsn := addS_snoc pre x
    rw [addF] at hsn
    have hsb := Nat.mod_lt (x.1.1 + x.1.2 + (addS pre).2) W64_pos
    generalize (x.1.1 + x.1.2 + (addS pre).2) % W64 = sm at hA hsn hsb
    generalize (x.1.1 + x.1.2 + (addS pre).2) / W64 = cy at hA hsn
    have Hsn := Lib.hid hsn
    clear hsn
    have hcl := Lib.hid k1
    have hlen : pre.length ≤ 1000000 := by omega
    have hlen2 : (addS pre).1.length ≤ 1000000 := by omega
    clear k1 hlt
    have hsW : W0.heap.size ≤ W.heap.size := hWs
    have hwf := wide_fn 55
    gi_wp2_with (gi_at_builtin; go_must (refine wpListIn_append_own _ rfl _ _ 23 rfl W0.heap.size 44 i0 (.int .u64 0) 1 8 Tryz.underlying23 hi hz0 hz1 hz2 rfl (by decide) _ _ _ rfl (hrow.alloc _) ⟨W.heap.size, 0, none⟩ 1 1 [.int .u64 (sm : Nat)] rfl rfl (cell_one_new _ _ _) (by simp [Value.oneCell']) (by unfold maxLen; omega) (by omega) (by simp; omega) ?_; intro v' w1 hown' hgrow _; obtain ⟨g', cap', rfl⟩ := ownsRow_succ hown'; obtain ⟨hbl, hko⟩ := below_appended hrow hsW hgrow; have hv1 := boxed_low hv hbl (by omega); have hC1 := boxed_low hC hbl (by omega); have hc1 := hv1.cell; have hf1 := hv1.frozen; have hc1' := hC1.cell; have hf1' := hC1.frozen))
    have hsn := Hsn.out
    refine ⟨?_, ?_, ?_⟩
    · exact (hko.trans ((KeepsOthers.setCell _ _ _).trans (KeepsOthers.setCell _ _ _))).from _
    · exact ((KR.of_below hbl (by omega) (by omega)).set (by omega) (by omega) _).set (by omega) (by omega) _
    · refine ⟨⟨_, boxed_far (hv1.set _) (by omega), ?_, trivial⟩, ?_, ?_, ?_⟩
      · rw [hsn, List.length_append, List.length_singleton, us_snoc]
        exact ownsRow_setCell_below (ownsRow_setCell_below hown' (by show w.heap.size < W0.heap.size; omega) _) (by show w.heap.size + 1 < W0.heap.size; omega) _
      · rw [hsn]; exact (boxed_far hC1 (by omega)).set _
      · exact (((hBel.trans (hbl.mono (by omega))).setCell (p := ⟨w.heap.size, 0, none⟩) (by simp) _).setCell (p := ⟨w.heap.size + 1, 0, none⟩) (by simp) _)
      · simp [World.setCell]; exact Nat.le_trans (by omega) hbl.size
  case done =>
    rintro D ys W hD hys ⟨⟨v, hv, hrow, _⟩, hC, hBel, hWs⟩ hK
    have hc := hv.cell
    have hc2 := hC.cell
    obtain ⟨k1, k2, k3⟩ := addS_ok ys
    have hl2 : (addS ys).1.length ≤ 1000000 := by
      have := congrArg List.length hys
      rw [List.length_map, pairsTo_length] at this
      omega
    have hys' := Lib.hid hys
    clear hys k1
    gi_wp2_with (gi_at_builtin; refine wpListIn_append_own _ rfl _ _ 23 rfl W0.heap.size 44 i0 (.int .u64 0) 1 8 Tryz.underlying23 hi hz0 hz1 hz2 rfl (by decide) _ _ _ rfl (hrow.alloc _) ⟨W.heap.size, 0, none⟩ 1 1 [.int .u64 ((addS ys).2 : Nat)] rfl rfl (cell_one_new _ _ _) (by simp [Value.oneCell']) (by unfold maxLen; omega) (by omega) (by have := hBel.size; simp; omega) ?_; intro v' w1 hown' hgrow _)
    obtain ⟨hbl, hko⟩ := below_appended hrow hWs hgrow
    have hres : IsL w1 v' ((addS ys).1 ++ [(addS ys).2]) := IsL.of_own (by rw [List.length_append, List.length_singleton, us_snoc]; exact hown') (k3.snoc (by unfold W64; omega))
    refine ⟨wide_fn _, (callsIn_wide.2 (bare_any v' _ w1 hres)).mono ?_⟩
    rintro e w' ⟨r, rfl, hr, rfl⟩
    rw [addS_num hys'.out] at hr
    gi_wp2
    have hK' := hko.same D _ hK rfl
    refine ⟨by simp, .inl ⟨_, _, rfl, run_takeDeferred hK', ?_⟩⟩
    have hBB := (hBel.trans (hbl.mono (by omega))).trans (belowK_b (w := w) (Nat.le_refl _) w1 D _ (.deferred none) (by omega) hK' rfl rfl)
    exact ⟨_, results_tmp rfl _ _ _, r, rfl, IsL.putObj hr hK' rfl, hBB⟩
  case stop =>
    rintro D c pre W _ _ h _
    exact h.elim

theorem add_any (va vb : Value) (a b : Nat) (w : World) (ha : IsN w va a) (hb : IsN w vb b) (hla : (limbs a).length ≤ 1000000) (hlb : (limbs b).length ≤ 1000000) :
    Calls Tryz.prog 35 #[va, vb] w fun e w' => ∃ v', e = .returned v' ∧ IsN w' v' (a + b) ∧ Below w.heap.size w w' := by
  have := callsIn_wide.1 (add_in va vb _ _ w ha hb hla hlb)
  rwa [num_limbs, num_limbs] at this
end Go.Proofs.YtooonjcpdbbniaaGreatDoor
