/- book.Book at the trees' kinds. -/
import Derived.Test.YtochabikpaoalaaGreatSort
import Derived.OwnWalkIn
namespace Go.Proofs.YtochabikpaoalaaGreat
open Go.RowKit Go.Shelf
attribute [local go_sem] Oper.semAt_some

theorem wide_fn (f : FuncId) : Fence.wide.fn f := trivial
theorem cell_two_new (w : World) (a b : Value) (t : TypeId) : ∀ j u, [a, b][j]? = some u → (w.alloc (.cells #[a, b] t)).cell? (Addr.add ⟨w.heap.size, 0, none⟩ j) = some u := by
  intro j u hu
  have hb : (Addr.add ⟨w.heap.size, 0, none⟩ j) = ⟨w.heap.size, j, none⟩ := by unfold Addr.add; split <;> simp_all
  rw [hb, World.cell?_alloc_at _ _ _ _ rfl]
  rcases j with _ | _ | j <;> simp_all
theorem IsI.putObj {W : World} {v : Value} {l : List Int} (h : IsI W v l) {D : Nat} {o : Obj} (hD : W.heap[D]? = some o) (ho : o.isCells = false) : IsI (W.putObj D (.deferred none)) v l := by
  obtain ⟨A, c, e, h1, h2, h4⟩ := h
  refine ⟨A, c, e, h1, h2, h4.1, fun hn => ?_⟩
  obtain ⟨ad, e1, e2, e3⟩ := h4.2 hn
  have hg := grownBy_putObj' W D (.deferred none)
  refine ⟨ad, e1, Nat.lt_of_lt_of_le e2 hg.size, fun j u hu => ?_⟩
  rw [← e3 j u hu]
  have hb : (ad.add j).block < W.heap.size := by rw [block_of_add]; exact e2
  refine World.cell?_of_block (hg.block _ hb (fun e => ?_))
  have hDj : D = (ad.add j).block := by injection e with e; exact e.symm
  have hc := e3 j u hu
  rw [hDj] at hD
  cases o <;> simp_all [World.cell?, Obj.isCells]
theorem stops_s (Bs : Nat) (w : World) (hB : Bs < w.heap.size) (h : w.cell? ⟨Bs, 0, none⟩ = some (.bool true)) :
    SeqStopsK Fence.wide 8 Tryz.prog 79 #[.pointer (some ⟨Bs, 0, none⟩)] (fun x : Num => #[Value.int .i64 x.1]) (fun _ _ => True) (fun ys => ys.map (·.1) = dec 1 7) (fun _ => True) 254 w := fun lr J Jx W hW _ _ hY h0 =>
  dec1_in_s lr Bs J Jx hY W ((hW.cell (p := ⟨Bs, 0, none⟩) hB).trans h) h0
theorem stops_u (Bs : Nat) (w : World) (hB : Bs < w.heap.size) (h : w.cell? ⟨Bs, 0, none⟩ = some (.bool false)) :
    SeqStopsK Fence.wide 8 Tryz.prog 79 #[.pointer (some ⟨Bs, 0, none⟩)] (fun x : Num => #[Value.int .i64 x.1]) (fun _ _ => True) (fun ys => ys.map (·.1) = dec 2 7) (fun _ => True) 254 w := fun lr J Jx W hW _ _ hY h0 =>
  dec1_in_u lr Bs J Jx hY W ((hW.cell (p := ⟨Bs, 0, none⟩) hB).trans h) h0
def acc0 (pre : List Num) : List Int := [0, 2560000000] ++ both (pre.map (·.1))
def acc1 (pre : List Num) : List Int := [0, 2560000000] ++ pre.map (·.1)
theorem acc0_snoc (pre : List Num) (x : Num) : acc0 (pre ++ [x]) = (acc0 pre ++ [x.1]) ++ [-x.1] := by simp [acc0, both_snoc]
theorem acc1_snoc (pre : List Num) (x : Num) : acc1 (pre ++ [x]) = acc1 pre ++ [x.1] := by simp [acc1]
theorem both_len (l : List Int) : (both l).length = 2 * l.length := by
  induction l with
  | nil => rfl
  | cons x r ih => simp [both, ih]; omega
theorem row_ko {W w1 : World} {b₁ : Nat} {e : TypeId} {v : Value} {k : Nat} {xs : List Value} (hrow : W.ownsRow b₁ e 1 v k xs) (hgrow : W.grownBy w1 v.ownBlock) : KeepsOthers W w1 := by
  refine KeepsOthers.of_grownBy hgrow fun j o ej hj => ?_
  rcases hrow.2 with ⟨rfl, _⟩ | ⟨g, cap, cur, rfl, _, hgb, _⟩
  · simp [Value.ownBlock] at ej
  · obtain rfl : g = j := by simpa [Value.ownBlock] using ej
    rw [hgb] at hj; cases hj; rfl
theorem acc0_all : [0, 2560000000] ++ both (dec 1 7) = laid 0 := rfl
theorem acc1_all : [0, 2560000000] ++ dec 2 7 = laid 1 := rfl
theorem acc0_len (pre : List Num) : (acc0 pre).length = 2 + 2 * pre.length := by simp [acc0, both_len]; omega
theorem acc1_len (pre : List Num) : (acc1 pre).length = 2 + pre.length := by simp [acc1]; omega

set_option maxRecDepth 100000 in
set_option maxHeartbeats 2000000 in
theorem book_0_in (w : World) :
    CallsIn Fence.wide 9 Tryz.prog 45 #[.int .i64 0] w fun e w' => ∃ v, e = .returned (.tuple #[v, .int .i64 0]) ∧ IsI w' v (bk 0) ∧ Below w.heap.size w w' := by
  obtain ⟨i0, hi, hz0, hz1, hz2⟩ := info_parts info_i64
  have bK := Boxed.new w 3 (.int .i64 0)
  have bO := Boxed.new (w.alloc (.cells #[.int .i64 0] 3)) 34 (.slice none 0 0)
  rw [World.size_alloc] at bO
  have bK := bK.alloc (.cells #[.slice none 0 0] 34)
  have hB0 : Below w.heap.size w ((w.alloc (.cells #[.int .i64 0] 3)).alloc (.cells #[.slice none 0 0] 34)) := ((Below.refl _ w).alloc (Nat.le_refl _) _).alloc (by simp) _
  refine callsIn_of_wp_marks Tryz.func45 rfl trivial ?_ rfl
  simp only [Tryz.ntmps45, List.size_toArray, List.length_cons, List.length_nil, Nat.reduceAdd, Nat.reduceSub, Array.replicate_succ, Array.replicate_zero, List.push_toArray, List.append_toArray, List.nil_append, List.cons_append]
  obtain ⟨Wa, hWa⟩ : ∃ Wa, Wa = (w.alloc (.cells #[.int .i64 0] 3)).alloc (.cells #[.slice none 0 0] 34) := ⟨_, rfl⟩
  have hsa : Wa.heap.size = w.heap.size + 2 := by rw [hWa]; simp
  rw [← hWa] at bK bO hB0
  have cK := bK.cell
  have cO := bO.cell
  have hrow0 : Wa.ownsRow (w.heap.size + 2) 2 1 (.slice none 0 0) 0 [] := World.ownsRow_nil _ _ _ _
  gi_wp2_with (gi_at_builtin; go_must (rw [← hWa]; refine wpListIn_append_own _ rfl _ _ 34 rfl (w.heap.size + 2) 2 i0 (.int .i64 0) 1 8 Tryz.underlying34 hi hz0 hz1 hz2 rfl (by decide) _ _ _ rfl (hrow0.alloc _) ⟨w.heap.size + 2, 0, none⟩ 2 2 [.int .i64 0, .int .i64 2560000000] rfl rfl (by rw [← hsa]; exact cell_two_new _ _ _ _) (by simp [Value.oneCell']) (by unfold maxLen; omega) (by omega) (by simp; omega) ?_; intro v' w1 hown' hgrow _; obtain ⟨g', cap', rfl⟩ := ownsRow_succ hown'; obtain ⟨hbl, hko⟩ := bx_app hrow0 (by omega) hgrow; have hK1 := bx_low bK hbl (by omega); have hO1 := bx_low bO hbl (by omega); have cK1 := hK1.cell; have cO1 := hO1.cell; have fO1 := hO1.frozen))
  have hO2 := hO1.set (.slice (some ⟨g', 0, none⟩) 2 cap')
  have hK2 : Boxed (w1.setCell ⟨w.heap.size + 1, 0, none⟩ (.slice (some ⟨g', 0, none⟩) 2 cap')) w.heap.size 3 (.int .i64 0) := bx_far hK1 (by omega)
  have hrow2 := ownsRow_setCell_below hown' (a := ⟨w.heap.size + 1, 0, none⟩) (by show w.heap.size + 1 < w.heap.size + 2; omega) (.slice (some ⟨g', 0, none⟩) 2 cap')
  have hB2 : Below w.heap.size w (w1.setCell ⟨w.heap.size + 1, 0, none⟩ (.slice (some ⟨g', 0, none⟩) 2 cap')) := (hB0.trans (hbl.mono (by omega))).setCell (p := ⟨w.heap.size + 1, 0, none⟩) (by simp) _
  have hs2 : w.heap.size + 2 ≤ (w1.setCell ⟨w.heap.size + 1, 0, none⟩ (.slice (some ⟨g', 0, none⟩) 2 cap')).heap.size := by have := hbl.size; simp [World.setCell]; omega
  obtain ⟨W2, hW2⟩ : ∃ W2, W2 = w1.setCell ⟨w.heap.size + 1, 0, none⟩ (.slice (some ⟨g', 0, none⟩) 2 cap') := ⟨_, rfl⟩
  rw [← hW2] at hO2 hK2 hrow2 hB2 hs2
  have cK2 := hK2.cell
  rw [← hW2]
  clear hW2 hK1 hO1 cK1 cO1 fO1 hown' hgrow hbl hko cK cO bK bO hrow0 hB0 hWa
  refine ⟨wide_fn _, (callsIn_wide.2 (show Calls Tryz.prog 46 #[.int .i64 0] _ (fun e w' => e = .returned (.bool true) ∧ _ = w') from signed_any 0 _)).mono ?_⟩
  rintro e w3 ⟨rfl, rfl⟩
  gi_wp2_with fail
  refine ⟨wide_fn _, (callsIn_wide.2 (decade_any true _)).mono ?_⟩
  rintro e W3 ⟨rfl, hw3⟩
  have hs3 : W3.heap.size = W2.heap.size + 1 := by rw [hw3]; simp
  have hK3 : Boxed W3 w.heap.size 3 (.int .i64 0) := by rw [hw3]; exact hK2.alloc _
  have hO3 : Boxed W3 (w.heap.size + 1) 34 (.slice (some ⟨g', 0, none⟩) 2 cap') := by rw [hw3]; exact hO2.alloc _
  have hS3 : W3.cell? ⟨W2.heap.size, 0, none⟩ = some (.bool true) := by rw [hw3]; exact (Boxed.new W2 _ _).cell
  have hrow3 : W3.ownsRow (w.heap.size + 2) 2 1 (.slice (some ⟨g', 0, none⟩) 2 cap') (acc0 []).length (is (acc0 [])) := by rw [hw3]; exact hrow2.alloc _
  have hB3 : Below w.heap.size w W3 := by rw [hw3]; exact hB2.alloc (by omega) _
  clear hw3 hO2 hK2 hrow2 hB2 cK2
  gi_wp2
  refine wpIn_rangeFunc_ownG (n := 9) rfl (by omega) (gf := 79) (lb := #[.pointer (some ⟨W2.heap.size, 0, none⟩)]) rfl trivial (enters_of Tryz.func79 (by kernel_rfl) rfl)
    (stops_s W2.heap.size W3 (by omega) hS3) (fun _ _ => trivial) (fun _ _ _ _ _ _ _ _ => trivial) (Below.refl _ _) (fun _ => rfl)
    (fun pre W => (∃ v, Boxed W (w.heap.size + 1) 34 v ∧ W.ownsRow (w.heap.size + 2) 2 1 v (acc0 pre).length (is (acc0 pre)) ∧ True) ∧ Boxed W w.heap.size 3 (.int .i64 0) ∧ (Below w.heap.size w W ∧ w.heap.size + 2 ≤ W.heap.size))
    (fun _ _ _ => False)
    ?oI ?oX ?st ?a1 ?assign ?body ?done ?stop
  case assign =>
    intro l x W K hK
    gi_wp2
    exact hK
  case oI => exact OwnFrom.and (Own.from (holdsRow_own (w.heap.size + 2) (w.heap.size + 1) 34 2 1 (fun pre => (acc0 pre).length) (fun pre => is (acc0 pre)) (fun _ _ => True)) _) (OwnFrom.and (Own.from (show Own (fun (s : List Num) (W : World) => Boxed W w.heap.size 3 (.int .i64 0)) from fun s X Y row hs hg hr => bx_kept hs hg hr) _) (OwnFrom.and (ownFrom_below (by omega) (by omega)) (Own.from (show Own (fun (_ : List Num) (W : World) => w.heap.size + 2 ≤ W.heap.size) from fun s X Y row hs hg hr => Nat.le_trans hs hg.size) _)))
  case oX => exact fun _ _ _ _ _ hs _ _ => hs
  case st => exact ⟨⟨_, hO3, hrow3, trivial⟩, hK3, hB3, by omega⟩
  case body =>
    rintro lp pre x W ⟨⟨v, hv, hrow, _⟩, hK, hBel, hWs⟩ hlt
    have hc := hv.cell
    have hcK := hK.cell
    have hsn := Lib.hid (acc0_snoc pre x)
    have hal : (acc0 pre).length ≤ 1000 := by have := acc0_len pre; omega
    have hx := x.2
    generalize x.1 = xx at hsn hx
    have hwf := wide_fn 46
    gi_wp2_with (gi_at_builtin; go_must (refine wpListIn_append_own _ rfl _ _ 34 rfl (w.heap.size + 2) 2 i0 (.int .i64 0) 1 8 Tryz.underlying34 hi hz0 hz1 hz2 rfl (by decide) _ _ _ rfl (hrow.alloc _) ⟨W.heap.size, 0, none⟩ 1 1 [.int .i64 xx] rfl rfl (cell_one_new _ _ _) (by simp [Value.oneCell']) (by unfold maxLen; omega) (by omega) (by simp; omega) ?_; intro v' w1 hown' hgrow _; obtain ⟨g', cap', rfl⟩ := ownsRow_succ hown'; obtain ⟨hbl, hko⟩ := bx_app hrow hWs hgrow; have hv1 := bx_low hv hbl (by omega); have hK1 := bx_low hK hbl (by omega); have hc1 := hv1.cell; have hf1 := hv1.frozen; have hcK1 := hK1.cell))
    have hv4 := hv1.set (.slice (some ⟨g', 0, none⟩) ((acc0 pre).length + 1) cap')
    have hK4 : Boxed (w1.setCell ⟨w.heap.size + 1, 0, none⟩ (.slice (some ⟨g', 0, none⟩) ((acc0 pre).length + 1) cap')) w.heap.size 3 (.int .i64 0) := bx_far hK1 (by omega)
    have hrow4 : (w1.setCell ⟨w.heap.size + 1, 0, none⟩ (.slice (some ⟨g', 0, none⟩) ((acc0 pre).length + 1) cap')).ownsRow (w.heap.size + 2) 2 1 (.slice (some ⟨g', 0, none⟩) ((acc0 pre).length + 1) cap') (acc0 pre ++ [xx]).length (is (acc0 pre ++ [xx])) := by
      rw [is_snoc, List.length_append, List.length_singleton]
      exact ownsRow_setCell_below hown' (a := ⟨w.heap.size + 1, 0, none⟩) (by show w.heap.size + 1 < w.heap.size + 2; omega) _
    have hko4 : KeepsOthers W (w1.setCell ⟨w.heap.size + 1, 0, none⟩ (.slice (some ⟨g', 0, none⟩) ((acc0 pre).length + 1) cap')) := hko.trans (KeepsOthers.setCell _ _ _)
    have hB4 : Below w.heap.size w (w1.setCell ⟨w.heap.size + 1, 0, none⟩ (.slice (some ⟨g', 0, none⟩) ((acc0 pre).length + 1) cap')) := (hBel.trans (hbl.mono (by omega))).setCell (p := ⟨w.heap.size + 1, 0, none⟩) (by simp) _
    have hs4 : w.heap.size + 2 ≤ (w1.setCell ⟨w.heap.size + 1, 0, none⟩ (.slice (some ⟨g', 0, none⟩) ((acc0 pre).length + 1) cap')).heap.size := by have := hbl.size; simp [World.setCell]; omega
    obtain ⟨W4, hW4⟩ : ∃ W4, W4 = w1.setCell ⟨w.heap.size + 1, 0, none⟩ (.slice (some ⟨g', 0, none⟩) ((acc0 pre).length + 1) cap') := ⟨_, rfl⟩
    rw [← hW4] at hv4 hK4 hrow4 hko4 hB4 hs4
    rw [← hW4]
    clear hW4 hv1 hK1 hc1 hf1 hcK1 hown' hgrow hbl hko hB3 hO3 hrow3 hS3 hK3 hc hcK hv hrow hK hBel hWs
    refine (CallsIn.inRound lp (callsIn_wide.2 (show Calls Tryz.prog 46 #[.int .i64 0] _ (fun e w' => e = .returned (.bool true) ∧ _ = w') from signed_any 0 _))).mono ?_
    rintro e w5 ⟨rfl, rfl⟩
    have hc4 := hv4.cell
    gi_wp2_with (gi_at_builtin; go_must (refine wpListIn_append_own _ rfl _ _ 34 rfl (w.heap.size + 2) 2 i0 (.int .i64 0) 1 8 Tryz.underlying34 hi hz0 hz1 hz2 rfl (by decide) _ _ _ rfl (hrow4.alloc _) ⟨W4.heap.size, 0, none⟩ 1 1 [.int .i64 (-xx)] rfl rfl (cell_one_new _ _ _) (by simp [Value.oneCell']) (by unfold maxLen; simp; omega) (by simp; omega) (by simp; omega) ?_; intro v' w1 hown' hgrow _; obtain ⟨g', cap', rfl⟩ := ownsRow_succ hown'; obtain ⟨hbl, hko⟩ := bx_app hrow4 hs4 hgrow; have hv1 := bx_low hv4 hbl (by omega); have hK1 := bx_low hK4 hbl (by omega); have hc1 := hv1.cell; have hf1 := hv1.frozen))
    refine ⟨((hko4.trans hko).trans (KeepsOthers.setCell _ _ _)).from _, trivial, ⟨_, hv1.set _, ?_, trivial⟩, bx_far hK1 (by omega), (hB4.trans (hbl.mono (by omega))).setCell (p := ⟨w.heap.size + 1, 0, none⟩) (by simp) _, ?_⟩
    · rw [hsn.out, is_snoc, show ((acc0 pre ++ [xx]) ++ [-xx]).length = (acc0 pre ++ [xx]).length + 1 from by simp, show (acc0 pre).length + 1 + 1 = (acc0 pre ++ [xx]).length + 1 from by simp]
      exact ownsRow_setCell_below hown' (a := ⟨w.heap.size + 1, 0, none⟩) (by show w.heap.size + 1 < w.heap.size + 2; omega) _
    · have := hbl.size; simp [World.setCell]; omega
  case done =>
    rintro D ys W hD hys ⟨⟨v, hv, hrow, _⟩, hK, hBel, hWs⟩ hKd
    have hc := hv.cell
    have hL : acc0 ys = laid 0 := by rw [acc0, hys]; exact acc0_all
    rw [hL] at hrow
    have hS := sort_own _ v (laid 0) W hrow (by decide +kernel) (by decide +kernel)
    rw [sort_laid 0 (by omega)] at hS
    have S := Lib.hid hS
    clear hS hL hys
    gi_wp2_with fail
    refine ⟨wide_fn _, (callsIn_wide.2 S.out).mono ?_⟩
    rintro e w1 ⟨rfl, hI, hgr⟩
    have hO1 := hv.kept hgr (fun e => by have := (hrow.lt _ e.symm).1; omega)
    have cO1 := hO1.cell
    have hK' := (row_ko hrow hgr).same D _ hKd rfl
    have hBx := hBel.grown hgr hBel.size (fun j e => by have := (hrow.lt j e).1; omega)
    clear S hgr hrow hKd
    gi_wp2
    refine ⟨by simp, .inl ⟨_, _, rfl, run_takeDeferred hK', ?_⟩⟩
    have hBB := hBx.trans (belowK_b (w := w) (Nat.le_refl _) w1 D _ (.deferred none) (by omega) hK' rfl rfl)
    exact ⟨_, results_tmp2 rfl _ _ _, v, rfl, IsI.putObj hI hK' rfl, hBB⟩
  case stop =>
    rintro D c pre W _ _ h _
    exact h.elim
theorem book_0 (w : World) :
    Calls Tryz.prog 45 #[.int .i64 0] w fun e w' => ∃ v, e = .returned (.tuple #[v, .int .i64 0]) ∧ IsI w' v (bk 0) ∧ Below w.heap.size w w' := callsIn_wide.1 (book_0_in w)

set_option maxRecDepth 100000 in
set_option maxHeartbeats 2000000 in
theorem book_1_in (w : World) :
    CallsIn Fence.wide 9 Tryz.prog 45 #[.int .i64 1] w fun e w' => ∃ v, e = .returned (.tuple #[v, .int .i64 0]) ∧ IsI w' v (bk 1) ∧ Below w.heap.size w w' := by
  obtain ⟨i0, hi, hz0, hz1, hz2⟩ := info_parts info_i64
  have bK := Boxed.new w 3 (.int .i64 1)
  have bO := Boxed.new (w.alloc (.cells #[.int .i64 1] 3)) 34 (.slice none 0 0)
  rw [World.size_alloc] at bO
  have bK := bK.alloc (.cells #[.slice none 0 0] 34)
  have hB0 : Below w.heap.size w ((w.alloc (.cells #[.int .i64 1] 3)).alloc (.cells #[.slice none 0 0] 34)) := ((Below.refl _ w).alloc (Nat.le_refl _) _).alloc (by simp) _
  refine callsIn_of_wp_marks Tryz.func45 rfl trivial ?_ rfl
  simp only [Tryz.ntmps45, List.size_toArray, List.length_cons, List.length_nil, Nat.reduceAdd, Nat.reduceSub, Array.replicate_succ, Array.replicate_zero, List.push_toArray, List.append_toArray, List.nil_append, List.cons_append]
  obtain ⟨Wa, hWa⟩ : ∃ Wa, Wa = (w.alloc (.cells #[.int .i64 1] 3)).alloc (.cells #[.slice none 0 0] 34) := ⟨_, rfl⟩
  have hsa : Wa.heap.size = w.heap.size + 2 := by rw [hWa]; simp
  rw [← hWa] at bK bO hB0
  have cK := bK.cell
  have cO := bO.cell
  have hrow0 : Wa.ownsRow (w.heap.size + 2) 2 1 (.slice none 0 0) 0 [] := World.ownsRow_nil _ _ _ _
  gi_wp2_with (gi_at_builtin; go_must (rw [← hWa]; refine wpListIn_append_own _ rfl _ _ 34 rfl (w.heap.size + 2) 2 i0 (.int .i64 0) 1 8 Tryz.underlying34 hi hz0 hz1 hz2 rfl (by decide) _ _ _ rfl (hrow0.alloc _) ⟨w.heap.size + 2, 0, none⟩ 2 2 [.int .i64 0, .int .i64 2560000000] rfl rfl (by rw [← hsa]; exact cell_two_new _ _ _ _) (by simp [Value.oneCell']) (by unfold maxLen; omega) (by omega) (by simp; omega) ?_; intro v' w1 hown' hgrow _; obtain ⟨g', cap', rfl⟩ := ownsRow_succ hown'; obtain ⟨hbl, hko⟩ := bx_app hrow0 (by omega) hgrow; have hK1 := bx_low bK hbl (by omega); have hO1 := bx_low bO hbl (by omega); have cK1 := hK1.cell; have cO1 := hO1.cell; have fO1 := hO1.frozen))
  have hO2 := hO1.set (.slice (some ⟨g', 0, none⟩) 2 cap')
  have hK2 : Boxed (w1.setCell ⟨w.heap.size + 1, 0, none⟩ (.slice (some ⟨g', 0, none⟩) 2 cap')) w.heap.size 3 (.int .i64 1) := bx_far hK1 (by omega)
  have hrow2 := ownsRow_setCell_below hown' (a := ⟨w.heap.size + 1, 0, none⟩) (by show w.heap.size + 1 < w.heap.size + 2; omega) (.slice (some ⟨g', 0, none⟩) 2 cap')
  have hB2 : Below w.heap.size w (w1.setCell ⟨w.heap.size + 1, 0, none⟩ (.slice (some ⟨g', 0, none⟩) 2 cap')) := (hB0.trans (hbl.mono (by omega))).setCell (p := ⟨w.heap.size + 1, 0, none⟩) (by simp) _
  have hs2 : w.heap.size + 2 ≤ (w1.setCell ⟨w.heap.size + 1, 0, none⟩ (.slice (some ⟨g', 0, none⟩) 2 cap')).heap.size := by have := hbl.size; simp [World.setCell]; omega
  obtain ⟨W2, hW2⟩ : ∃ W2, W2 = w1.setCell ⟨w.heap.size + 1, 0, none⟩ (.slice (some ⟨g', 0, none⟩) 2 cap') := ⟨_, rfl⟩
  rw [← hW2] at hO2 hK2 hrow2 hB2 hs2
  have cK2 := hK2.cell
  rw [← hW2]
  clear hW2 hK1 hO1 cK1 cO1 fO1 hown' hgrow hbl hko cK cO bK bO hrow0 hB0 hWa
  refine ⟨wide_fn _, (callsIn_wide.2 (show Calls Tryz.prog 46 #[.int .i64 1] _ (fun e w' => e = .returned (.bool false) ∧ _ = w') from signed_any 1 _)).mono ?_⟩
  rintro e w3 ⟨rfl, rfl⟩
  gi_wp2_with fail
  refine ⟨wide_fn _, (callsIn_wide.2 (decade_any false _)).mono ?_⟩
  rintro e W3 ⟨rfl, hw3⟩
  have hs3 : W3.heap.size = W2.heap.size + 1 := by rw [hw3]; simp
  have hK3 : Boxed W3 w.heap.size 3 (.int .i64 1) := by rw [hw3]; exact hK2.alloc _
  have hO3 : Boxed W3 (w.heap.size + 1) 34 (.slice (some ⟨g', 0, none⟩) 2 cap') := by rw [hw3]; exact hO2.alloc _
  have hS3 : W3.cell? ⟨W2.heap.size, 0, none⟩ = some (.bool false) := by rw [hw3]; exact (Boxed.new W2 _ _).cell
  have hrow3 : W3.ownsRow (w.heap.size + 2) 2 1 (.slice (some ⟨g', 0, none⟩) 2 cap') (acc1 []).length (is (acc1 [])) := by rw [hw3]; exact hrow2.alloc _
  have hB3 : Below w.heap.size w W3 := by rw [hw3]; exact hB2.alloc (by omega) _
  clear hw3 hO2 hK2 hrow2 hB2 cK2
  gi_wp2
  refine wpIn_rangeFunc_ownG (n := 9) rfl (by omega) (gf := 79) (lb := #[.pointer (some ⟨W2.heap.size, 0, none⟩)]) rfl trivial (enters_of Tryz.func79 (by kernel_rfl) rfl)
    (stops_u W2.heap.size W3 (by omega) hS3) (fun _ _ => trivial) (fun _ _ _ _ _ _ _ _ => trivial) (Below.refl _ _) (fun _ => rfl)
    (fun pre W => (∃ v, Boxed W (w.heap.size + 1) 34 v ∧ W.ownsRow (w.heap.size + 2) 2 1 v (acc1 pre).length (is (acc1 pre)) ∧ True) ∧ Boxed W w.heap.size 3 (.int .i64 1) ∧ (Below w.heap.size w W ∧ w.heap.size + 2 ≤ W.heap.size))
    (fun _ _ _ => False)
    ?oI ?oX ?st ?a1 ?assign ?body ?done ?stop
  case assign =>
    intro l x W K hK
    gi_wp2
    exact hK
  case oI => exact OwnFrom.and (Own.from (holdsRow_own (w.heap.size + 2) (w.heap.size + 1) 34 2 1 (fun pre => (acc1 pre).length) (fun pre => is (acc1 pre)) (fun _ _ => True)) _) (OwnFrom.and (Own.from (show Own (fun (s : List Num) (W : World) => Boxed W w.heap.size 3 (.int .i64 1)) from fun s X Y row hs hg hr => bx_kept hs hg hr) _) (OwnFrom.and (ownFrom_below (by omega) (by omega)) (Own.from (show Own (fun (_ : List Num) (W : World) => w.heap.size + 2 ≤ W.heap.size) from fun s X Y row hs hg hr => Nat.le_trans hs hg.size) _)))
  case oX => exact fun _ _ _ _ _ hs _ _ => hs
  case st => exact ⟨⟨_, hO3, hrow3, trivial⟩, hK3, hB3, by omega⟩
  case body =>
    rintro lp pre x W ⟨⟨v, hv, hrow, _⟩, hK, hBel, hWs⟩ hlt
    have hc := hv.cell
    have hcK := hK.cell
    have hsn := Lib.hid (acc1_snoc pre x)
    have hal : (acc1 pre).length ≤ 1000 := by have := acc1_len pre; omega
    have hx := x.2
    generalize x.1 = xx at hsn hx
    have hwf := wide_fn 46
    gi_wp2_with (gi_at_builtin; go_must (refine wpListIn_append_own _ rfl _ _ 34 rfl (w.heap.size + 2) 2 i0 (.int .i64 0) 1 8 Tryz.underlying34 hi hz0 hz1 hz2 rfl (by decide) _ _ _ rfl (hrow.alloc _) ⟨W.heap.size, 0, none⟩ 1 1 [.int .i64 xx] rfl rfl (cell_one_new _ _ _) (by simp [Value.oneCell']) (by unfold maxLen; omega) (by omega) (by simp; omega) ?_; intro v' w1 hown' hgrow _; obtain ⟨g', cap', rfl⟩ := ownsRow_succ hown'; obtain ⟨hbl, hko⟩ := bx_app hrow hWs hgrow; have hv1 := bx_low hv hbl (by omega); have hK1 := bx_low hK hbl (by omega); have hc1 := hv1.cell; have hf1 := hv1.frozen; have hcK1 := hK1.cell))
    have hv4 := hv1.set (.slice (some ⟨g', 0, none⟩) ((acc1 pre).length + 1) cap')
    have hK4 : Boxed (w1.setCell ⟨w.heap.size + 1, 0, none⟩ (.slice (some ⟨g', 0, none⟩) ((acc1 pre).length + 1) cap')) w.heap.size 3 (.int .i64 1) := bx_far hK1 (by omega)
    have hrow4 : (w1.setCell ⟨w.heap.size + 1, 0, none⟩ (.slice (some ⟨g', 0, none⟩) ((acc1 pre).length + 1) cap')).ownsRow (w.heap.size + 2) 2 1 (.slice (some ⟨g', 0, none⟩) ((acc1 pre).length + 1) cap') (acc1 pre ++ [xx]).length (is (acc1 pre ++ [xx])) := by
      rw [is_snoc, List.length_append, List.length_singleton]
      exact ownsRow_setCell_below hown' (a := ⟨w.heap.size + 1, 0, none⟩) (by show w.heap.size + 1 < w.heap.size + 2; omega) _
    have hko4 : KeepsOthers W (w1.setCell ⟨w.heap.size + 1, 0, none⟩ (.slice (some ⟨g', 0, none⟩) ((acc1 pre).length + 1) cap')) := hko.trans (KeepsOthers.setCell _ _ _)
    have hB4 : Below w.heap.size w (w1.setCell ⟨w.heap.size + 1, 0, none⟩ (.slice (some ⟨g', 0, none⟩) ((acc1 pre).length + 1) cap')) := (hBel.trans (hbl.mono (by omega))).setCell (p := ⟨w.heap.size + 1, 0, none⟩) (by simp) _
    have hs4 : w.heap.size + 2 ≤ (w1.setCell ⟨w.heap.size + 1, 0, none⟩ (.slice (some ⟨g', 0, none⟩) ((acc1 pre).length + 1) cap')).heap.size := by have := hbl.size; simp [World.setCell]; omega
    obtain ⟨W4, hW4⟩ : ∃ W4, W4 = w1.setCell ⟨w.heap.size + 1, 0, none⟩ (.slice (some ⟨g', 0, none⟩) ((acc1 pre).length + 1) cap') := ⟨_, rfl⟩
    rw [← hW4] at hv4 hK4 hrow4 hko4 hB4 hs4
    rw [← hW4]
    clear hW4 hv1 hK1 hc1 hf1 hcK1 hown' hgrow hbl hko hB3 hO3 hrow3 hS3 hK3 hc hcK hv hrow hK hBel hWs
    refine (CallsIn.inRound lp (callsIn_wide.2 (show Calls Tryz.prog 46 #[.int .i64 1] _ (fun e w' => e = .returned (.bool false) ∧ _ = w') from signed_any 1 _))).mono ?_
    rintro e w5 ⟨rfl, rfl⟩
    gi_wp2
    rw [← hsn.out] at hrow4
    exact ⟨hko4.from _, trivial, ⟨_, hv4, hrow4, trivial⟩, hK4, hB4, hs4⟩
  case done =>
    rintro D ys W hD hys ⟨⟨v, hv, hrow, _⟩, hK, hBel, hWs⟩ hKd
    have hc := hv.cell
    have hL : acc1 ys = laid 1 := by rw [acc1, hys]; exact acc1_all
    rw [hL] at hrow
    have hS := sort_own _ v (laid 1) W hrow (by decide +kernel) (by decide +kernel)
    rw [sort_laid 1 (by omega)] at hS
    have S := Lib.hid hS
    clear hS hL hys
    gi_wp2_with fail
    refine ⟨wide_fn _, (callsIn_wide.2 S.out).mono ?_⟩
    rintro e w1 ⟨rfl, hI, hgr⟩
    have hO1 := hv.kept hgr (fun e => by have := (hrow.lt _ e.symm).1; omega)
    have cO1 := hO1.cell
    have hK' := (row_ko hrow hgr).same D _ hKd rfl
    have hBx := hBel.grown hgr hBel.size (fun j e => by have := (hrow.lt j e).1; omega)
    clear S hgr hrow hKd
    gi_wp2
    refine ⟨by simp, .inl ⟨_, _, rfl, run_takeDeferred hK', ?_⟩⟩
    have hBB := hBx.trans (belowK_b (w := w) (Nat.le_refl _) w1 D _ (.deferred none) (by omega) hK' rfl rfl)
    exact ⟨_, results_tmp2 rfl _ _ _, v, rfl, IsI.putObj hI hK' rfl, hBB⟩
  case stop =>
    rintro D c pre W _ _ h _
    exact h.elim
theorem book_1 (w : World) :
    Calls Tryz.prog 45 #[.int .i64 1] w fun e w' => ∃ v, e = .returned (.tuple #[v, .int .i64 0]) ∧ IsI w' v (bk 1) ∧ Below w.heap.size w w' := callsIn_wide.1 (book_1_in w)
end Go.Proofs.YtochabikpaoalaaGreat
