/- div.short: a number divided by one limb. -/
import Derived.Test.YtooonjcpdbbniaaGreatDoorShortS
import Derived.Test.YtooonjcpdbbniaaGreatDoorDivZ
import Derived.Test.YtooonjcpdbbniaaGreatDoorBackK
import Derived.Test.YtooonjcpdbbniaaGreatDoorAdd
import Derived.Test.YtooonjcpdbbniaaGreatDoorDiv64
import Derived.Test.YtooonjcpdbbniaaGreatDoorRoundReg
import Derived.Deep.RegionHeld3
namespace Go.Proofs.YtooonjcpdbbniaaGreatDoor
open Go.RowKit Go.Shelf
attribute [local go_sem] Oper.semAt_some
theorem arr_kept {W W' : World} {row : Option Nat} {g : Nat} {l : List Nat} (h : Arr W g l) (hg : W.grownBy W' row) (hr : ∀ r, row = some r → ∃ o : Obj, W.heap[r]? = some o ∧ o.isCells = false) : Arr W' g l :=
  (hg.block g h.lt (fun e => by
    obtain ⟨o, ho, hc⟩ := hr g e.symm
    unfold Arr at h; rw [h] at ho; cases ho; cases hc)).trans h
theorem boxed_farI {W : World} {C B i : Nat} {t : TypeId} {u x : Value} (h : Boxed W C t u) (hne : C ≠ B) : Boxed (W.setCell ⟨B, i, none⟩ x) C t u := (Below.heap_setCell W ⟨B, i, none⟩ x C hne).trans h
set_option maxRecDepth 100000 in
set_option maxHeartbeats 2000000 in
theorem short_in (va : Value) (a : List Nat) (b : Nat) (hb : 0 < b) (hb64 : b < W64) (w : World) (ha : IsL w va a) (hla : a.length ≤ 1000000) :
    CallsIn Fence.wide 9 Tryz.prog 69 #[va, .int .u64 b] w fun e w' => ∃ q, e = .returned (.tuple #[q, .int .u64 ((num a % b : Nat) : Int)]) ∧ IsN w' q (num a / b) ∧ Fresh w.heap.size q ∧ Below w.heap.size w w' := by
  obtain ⟨A, ca, rfl, hac, hca, hba, hra⟩ := ha
  have hmk := run_make_u64 23 Tryz.underlying23 a.length (a.length : Int) rfl (by omega)
  refine callsIn_of_wp_marks Tryz.func69 rfl trivial ?_ rfl
  simp only [Tryz.ntmps69, List.size_toArray, List.length_cons, List.length_nil, Nat.reduceAdd, Nat.reduceSub, Array.replicate_succ, Array.replicate_zero, List.push_toArray, List.append_toArray, List.nil_append, List.cons_append]
  gi_wp2_with (first | (refine ⟨trivial, ?_⟩; gi_at_call 62; refine (backward_in Fence.wide _ trivial rfl _ _ _ _).mono ?_; rintro e w' ⟨rfl, rfl⟩))
  obtain ⟨W0, hW0⟩ : ∃ W0, W0 = ((((w.alloc (.cells #[.int .u64 b] 44)).alloc (.cells (us (zeros a.length)).toArray 44)).alloc (.cells #[.slice (some ⟨w.heap.size + 1, 0, none⟩) a.length a.length] 23)).alloc (.cells #[.int .u64 0] 44)).alloc (.cells #[.slice A a.length ca] 23) := ⟨_, rfl⟩
  have hsz : W0.heap.size = w.heap.size + 5 := by rw [hW0]; simp
  have bB : Boxed W0 w.heap.size 44 (.int .u64 b) := by rw [hW0]; exact ((((Boxed.new w _ _).alloc _).alloc _).alloc _).alloc _
  have aQ : Arr W0 (w.heap.size + 1) (zeros a.length) := by rw [hW0]; have := Arr.new (w.alloc (.cells #[.int .u64 b] 44)) (zeros a.length); rw [World.size_alloc] at this; exact ((this.alloc _).alloc _).alloc _
  have bQ : Boxed W0 (w.heap.size + 2) 23 (.slice (some ⟨w.heap.size + 1, 0, none⟩) a.length a.length) := by rw [hW0]; have := Boxed.new ((w.alloc (.cells #[.int .u64 b] 44)).alloc (.cells (us (zeros a.length)).toArray 44)) 23 (.slice (some ⟨w.heap.size + 1, 0, none⟩) a.length a.length); simp only [World.size_alloc] at this; exact (this.alloc _).alloc _
  have bR : Boxed W0 (w.heap.size + 3) 44 (.int .u64 0) := by rw [hW0]; have := Boxed.new (((w.alloc (.cells #[.int .u64 b] 44)).alloc (.cells (us (zeros a.length)).toArray 44)).alloc (.cells #[.slice (some ⟨w.heap.size + 1, 0, none⟩) a.length a.length] 23)) 44 (.int .u64 0); simp only [World.size_alloc] at this; exact this.alloc _
  have bI : Boxed W0 (w.heap.size + 4) 23 (.slice A a.length ca) := by rw [hW0]; have := Boxed.new ((((w.alloc (.cells #[.int .u64 b] 44)).alloc (.cells (us (zeros a.length)).toArray 44)).alloc (.cells #[.slice (some ⟨w.heap.size + 1, 0, none⟩) a.length a.length] 23)).alloc (.cells #[.int .u64 0] 44)) 23 (.slice A a.length ca); simp only [World.size_alloc] at this; exact this
  have hB0 : Below w.heap.size w W0 := by rw [hW0]; exact (((((Below.refl _ w).alloc (Nat.le_refl _) _).alloc (by simp) _).alloc (by simp; omega) _).alloc (by simp; omega) _).alloc (by simp; omega) _
  rw [← hW0]
  clear hW0
  refine wpIn_rangeFunc_ownG (n := 9) rfl (by omega) (gf := 88) (lb := #[.pointer (some ⟨w.heap.size + 4, 0, none⟩)]) rfl trivial (enters_of Tryz.func88 (by kernel_rfl) rfl)
    (backK_stops Fence.wide 8 trivial rfl (by omega) (w.heap.size + 4) w.heap.size ca A a (by omega) W0 (by omega) (by omega) bI.cell (hra.below hB0)) KR.trans (KR.put (by omega) (by omega)) (Below.refl _ _) (fun _ => rfl)
    (fun pre W => (Arr W (w.heap.size + 1) (shS b a (pre.map (·.1))).1 ∧ Boxed W w.heap.size 44 (.int .u64 b) ∧ Boxed W (w.heap.size + 2) 23 (.slice (some ⟨w.heap.size + 1, 0, none⟩) a.length a.length) ∧ Boxed W (w.heap.size + 3) 44 (.int .u64 ((shS b a (pre.map (·.1))).2 : Nat))) ∧ (Below w.heap.size w W ∧ W0.heap.size ≤ W.heap.size))
    (fun _ _ _ => False)
    ?oI ?oX ?st ?a1 ?assign ?body ?done ?stop
  case assign =>
    intro l x W K hK
    gi_wp2
    exact hK
  case oI => exact OwnFrom.and (Own.from (show Own (fun (s : List (Idx a.length)) (W : World) => Arr W (w.heap.size + 1) (shS b a (s.map (·.1))).1 ∧ Boxed W w.heap.size 44 (.int .u64 b) ∧ Boxed W (w.heap.size + 2) 23 (.slice (some ⟨w.heap.size + 1, 0, none⟩) a.length a.length) ∧ Boxed W (w.heap.size + 3) 44 (.int .u64 ((shS b a (s.map (·.1))).2 : Nat))) from fun s X Y row hs hg hr => ⟨arr_kept hs.1 hg hr, boxed_kept hs.2.1 hg hr, boxed_kept hs.2.2.1 hg hr, boxed_kept hs.2.2.2 hg hr⟩) _) (OwnFrom.and (ownFrom_below (by omega) (by omega)) (Own.from (show Own (fun (_ : List (Idx a.length)) (W : World) => W0.heap.size ≤ W.heap.size) from fun s X Y row hs hg hr => Nat.le_trans hs hg.size) _))
  case oX => exact fun _ _ _ _ _ hs _ _ => hs
  case st => exact ⟨⟨aQ, bB, bQ, bR⟩, hB0, Nat.le_refl _⟩
  case body =>
    rintro lr pre x W ⟨⟨hA, hB, hQ, hR⟩, hBel, hWs⟩ hlt
    obtain ⟨is, his⟩ : ∃ y, y = pre.map (fun y : Idx a.length => y.1) := ⟨_, rfl⟩
    have hnew : (pre ++ [x]).map (fun y : Idx a.length => y.1) = is ++ [x.1] := by rw [List.map_append, ← his]; rfl
    rw [← his] at hA hR
    have HNEW := Lib.hid hnew
    obtain ⟨hr0, hbd⟩ := shS_ok hb hba is
    have hlen := shS_len b a is
    have hsn := shS_snoc b a is x.1
    unfold shF at hsn
    obtain ⟨s, hs⟩ : ∃ y, y = shS b a is := ⟨_, rfl⟩
    rw [← hs] at hA hR hr0 hbd hlen hsn
    clear hs his hnew hlt
    obtain ⟨l, r⟩ := s
    simp only at hA hR hr0 hbd hlen hsn
    have hx64 := hba.lat x.1
    have hxi := x.2
    have hD := fun w => div64_any r (lat a x.1) b hx64 hb64 hr0 w
    generalize (r * W64 + lat a x.1) / b = q1 at hD hsn
    generalize (r * W64 + lat a x.1) % b = r1 at hD hsn
    have HSN := Lib.hid hsn
    clear hsn
    generalize lat a x.1 = xl at *
    generalize x.1 = xi at *
    have i0 : (0 : Int) ≤ (xi : Int) := by omega
    have i1 : (xi : Int) < (a.length : Int) := by omega
    have hmx : Tryz.prog.follows .mixedOrders = true := by kernel_rfl
    gi_wp2_with fail
    refine wpInR_region_held (S := fun w' => w'.cell? ⟨w.heap.size + 2, 0, none⟩ = some (.slice (some ⟨w.heap.size + 1, 0, none⟩) a.length a.length) ∧ w'.cell? ⟨w.heap.size, 0, none⟩ = some (.int .u64 b)) hmx (by kernel_rfl) ?_ (fun hHeld => ?_)
    · exact ⟨hQ.cell, hB.cell⟩
    generalize hwd : W.drew = wd at hHeld ⊢
    have bd : Below W.heap.size W wd := by rw [← hwd]; exact (Below.refl _ _).drew
    clear hwd
    refine wpAnyH_take (i := 0) (v := ?s_v0) rfl (by kernel_rfl) (by kernel_rfl) (by kernel_rfl) (fun _ _ _ h => h) (Or.inl ⟨by kernel_rfl, ?s_hy0⟩) (by assumption) ?s_rest0
    case s_hy0 => (intro w hSw; (try dsimp only at hSw); go_simp; try (with_reducible rfl))
    try simp only [Act.put, lay1, lay2, lay3, lay4, lay5, lay6]
    refine wpAnyH_take (i := 1) (v := ?s_v1) rfl (by kernel_rfl) (by kernel_rfl) (by kernel_rfl) (fun _ _ _ h => h) (Or.inl ⟨by kernel_rfl, ?s_hy1⟩) (by assumption) ?s_rest1
    case s_hy1 => (intro w hSw; (try dsimp only at hSw); go_simp; try (with_reducible rfl))
    try simp only [Act.put, lay1, lay2, lay3, lay4, lay5, lay6]
    refine wpAnyH_take (i := 3) (v := ?s_v3) rfl (by kernel_rfl) (by kernel_rfl) (by kernel_rfl) (fun _ _ _ h => h) (Or.inl ⟨by kernel_rfl, ?s_hy3⟩) (by assumption) ?s_rest3
    case s_hy3 => (intro w hSw; (try dsimp only at hSw); go_simp; try (with_reducible rfl))
    try simp only [Act.put, lay1, lay2, lay3, lay4, lay5, lay6]
    refine wpAnyH_take (i := 4) (v := ?s_v4) rfl (by kernel_rfl) (by kernel_rfl) (by kernel_rfl) (fun _ _ _ h => h) (Or.inl ⟨by kernel_rfl, ?s_hy4⟩) (by assumption) ?s_rest4
    case s_hy4 => (intro w hSw; (try dsimp only at hSw); go_simp; try (with_reducible rfl))
    try simp only [Act.put, lay1, lay2, lay3, lay4, lay5, lay6]
    refine wpAnyH_ready (rs := [2]) (by kernel_rfl) (by simp) ?_
    refine AllReadyH.cons rfl (fun K hK => ?_) AllReadyH.nil
    have hQd : Boxed wd (w.heap.size + 2) 23 _ := boxed_low hQ bd hQ.lt
    have hBd : Boxed wd w.heap.size 44 _ := boxed_low hB bd hB.lt
    have rc : wd.cell? ⟨w.heap.size + 3, 0, none⟩ = some (.int .u64 r) := Boxed.cell (boxed_low hR bd hR.lt)
    go_simp
    refine hK.out _ _ ?_ (fun hHeld => ?_)
    · exact ⟨hQd.cell, hBd.cell⟩
    clear hK K rc
    try simp only [Act.put, lay1, lay2, lay3, lay4, lay5, lay6]
    refine wpAnyH_ready (rs := [5]) (by kernel_rfl) (by simp) ?_
    refine AllReadyH.cons rfl (fun K hK => ?_) AllReadyH.nil
    go_simp
    refine (hD _).mono ?_
    rintro e w1 ⟨rfl, n1, hn1⟩
    have d1 : Below W.heap.size W w1 := by rw [hn1]; exact bd.trans ((below_drewN (Below.refl _ _) n1).mono bd.size)
    clear hn1
    have hA1 : Arr w1 (w.heap.size + 1) l := hA.below d1 hA.lt
    have hQ1 : Boxed w1 (w.heap.size + 2) 23 _ := boxed_low hQ d1 hQ.lt
    have hR1 : Boxed w1 (w.heap.size + 3) 44 _ := boxed_low hR d1 hR.lt
    have hB1 : Boxed w1 w.heap.size 44 _ := boxed_low hB d1 hB.lt
    go_wp2_with fail
    refine hK.out _ _ ?_ (fun hHeld => ?_)
    · exact ⟨hQ1.cell, hB1.cell⟩
    clear hK K
    try simp only [Act.put, lay1, lay2, lay3, lay4, lay5, lay6]
    refine wpAnyH_take (i := 6) (v := ?s_v6) rfl (by kernel_rfl) (by kernel_rfl) (by kernel_rfl) (fun _ _ _ h => h) (Or.inl ⟨by kernel_rfl, ?s_hy6⟩) (by assumption) ?s_rest6
    case s_hy6 => (intro w hSw; (try dsimp only at hSw); go_simp; try (with_reducible rfl))
    try simp only [Act.put, lay1, lay2, lay3, lay4, lay5, lay6]
    refine wpAnyH_take (i := 7) (v := ?s_v7) rfl (by kernel_rfl) (by kernel_rfl) (by kernel_rfl) (fun _ _ _ h => h) (Or.inl ⟨by kernel_rfl, ?s_hy7⟩) (by assumption) ?s_rest7
    case s_hy7 => (intro w hSw; (try dsimp only at hSw); go_simp; try (with_reducible rfl))
    try simp only [Act.put, lay1, lay2, lay3, lay4, lay5, lay6]
    refine wpAnyH_take (i := 8) (v := ?s_v8) rfl (by kernel_rfl) (by kernel_rfl) (by kernel_rfl) (fun _ _ _ h => h) (Or.inl ⟨by kernel_rfl, ?s_hy8⟩) (by assumption) ?s_rest8
    case s_hy8 => (intro w hSw; (try dsimp only at hSw); go_simp; try (with_reducible rfl))
    try simp only [Act.put, lay1, lay2, lay3, lay4, lay5, lay6]
    refine wpAnyH_take (i := 9) (v := ?s_v9) rfl (by kernel_rfl) (by kernel_rfl) (by kernel_rfl) (fun _ _ _ h => h) (Or.inl ⟨by kernel_rfl, ?s_hy9⟩) (by assumption) ?s_rest9
    case s_hy9 => (intro w hSw; (try dsimp only at hSw); go_simp; try (with_reducible rfl))
    try simp only [Act.put, lay1, lay2, lay3, lay4, lay5, lay6]
    refine wpAnyH_ready (rs := [10]) (by kernel_rfl) (by simp) ?_
    refine AllReadyH.cons rfl (fun K hK => ?_) AllReadyH.nil
    have qc := hA1.cell (i := xi) (by omega)
    have qf := hA1.frozen xi
    go_simp
    refine hK.out _ _ ?_ (fun hHeld => ?_)
    · exact ⟨(boxed_farI hQ1 (by omega)).cell, (boxed_farI hB1 (by omega)).cell⟩
    clear hK K qc qf
    try simp only [Act.put, lay1, lay2, lay3, lay4, lay5, lay6]
    refine wpAnyH_ready (rs := [11]) (by kernel_rfl) (by simp) ?_
    refine AllReadyH.cons rfl (fun K hK => ?_) AllReadyH.nil
    have hR2 := boxed_farI (i := xi) (x := (.int .u64 (q1 : Nat))) hR1 (show w.heap.size + 3 ≠ w.heap.size + 1 by omega)
    have rc := hR2.cell
    have rf := hR2.frozen
    go_simp
    refine hK.out _ _ ?_ (fun hHeld => ?_)
    · exact ⟨(boxed_far (boxed_farI hQ1 (by omega)) (by omega)).cell, (boxed_far (boxed_farI hB1 (by omega)) (by omega)).cell⟩
    clear hK K rc rf
    refine wpAnyH_done (by kernel_rfl) ?_ _
    dsimp only [OnlyN]
    gi_wp2
    have hKO : KeepsOthers W w1 := ⟨d1.size, fun k o hk ho => (d1.block k (Array.getElem?_eq_some_iff.1 hk).1).trans hk⟩
    have hA2 := hA1.set xi q1
    have hB2 : Boxed (w1.setCell ⟨w.heap.size + 1, xi, none⟩ (.int .u64 (q1 : Nat))) w.heap.size 44 _ := boxed_farI hB1 (by omega)
    have hQ2 : Boxed (w1.setCell ⟨w.heap.size + 1, xi, none⟩ (.int .u64 (q1 : Nat))) (w.heap.size + 2) 23 _ := boxed_farI hQ1 (by omega)
    have hwW := hBel.size
    refine ⟨?_, ?_, ?_⟩
    · exact (hKO.trans ((KeepsOthers.setCell _ _ _).trans (KeepsOthers.setCell _ _ _))).from _
    · exact ((KR.of_below d1 (by omega) (by omega)).setAt (by omega) (.inl (by omega)) _).set (by omega) (.inl (by omega)) _
    · refine ⟨⟨?_, boxed_far hB2 (by omega), boxed_far hQ2 (by omega), ?_⟩, ?_, ?_⟩
      · rw [HNEW.out, HSN.out]
        exact (Below.heap_setCell _ ⟨w.heap.size + 3, 0, none⟩ _ (w.heap.size + 1) (by show w.heap.size + 1 ≠ w.heap.size + 3; omega)).trans hA2
      · rw [HNEW.out, HSN.out]; exact hR2.set _
      · exact ((hBel.trans (d1.mono hwW)).setCell (p := ⟨w.heap.size + 1, xi, none⟩) (by simp) _).setCell (p := ⟨w.heap.size + 3, 0, none⟩) (by simp) _
      · simp [World.setCell]; exact Nat.le_trans hWs d1.size
  case done =>
    rintro D ys W hD hys ⟨⟨hA, hB, hQ, hR⟩, hBel, hWs⟩ hK
    rw [hys] at hA hR
    obtain ⟨e1, e2⟩ := shS_all hb a
    obtain ⟨_, hbd⟩ := shS_ok hb hba (back a.length a.length)
    have hlen := shS_len b a (back a.length a.length)
    obtain ⟨s, hs⟩ : ∃ y, y = shS b a (back a.length a.length) := ⟨_, rfl⟩
    rw [← hs] at hA hR e1 e2 hbd hlen
    clear hs hys
    obtain ⟨l, r⟩ := s
    simp only at hA hR e1 e2 hbd hlen
    subst e2
    have HE1 := Lib.hid e1
    clear e1
    have hKD := Lib.hid hK
    clear hK
    obtain ⟨rr, hrr⟩ : ∃ y, y = num a % b := ⟨_, rfl⟩
    rw [← hrr] at hR
    have HRR := Lib.hid hrr
    clear hrr
    gi_wp2_with fail
    refine wpIn_wide.2 ?_
    refine wp_region_noPanic ?_
    refine wp_region_held_drew (S := fun w' => w'.cell? ⟨w.heap.size + 2, 0, none⟩ = some (.slice (some ⟨w.heap.size + 1, 0, none⟩) a.length a.length) ∧ w'.cell? ⟨w.heap.size + 3, 0, none⟩ = some (.int .u64 rr)) (by kernel_rfl) ?_ (fun hHeld => ?_)
    · exact ⟨hQ.cell, hR.cell⟩
    refine wpAnyH_take (i := 0) (v := ?e_v0) rfl (by kernel_rfl) (by kernel_rfl) (by kernel_rfl) (fun _ _ _ h => h) (Or.inl ⟨by kernel_rfl, ?e_hy0⟩) (by assumption) ?e_rest0
    case e_hy0 => (intro w hSw; (try dsimp only at hSw); go_simp; try (with_reducible rfl))
    try simp only [Act.put, lay1, lay2, lay3, lay4, lay5, lay6]
    refine wpAnyH_take (i := 2) (v := ?e_v2) rfl (by kernel_rfl) (by kernel_rfl) (by kernel_rfl) (fun _ _ _ h => h) (Or.inl ⟨by kernel_rfl, ?e_hy2⟩) (by assumption) ?e_rest2
    case e_hy2 => (intro w hSw; (try dsimp only at hSw); go_simp; try (with_reducible rfl))
    try simp only [Act.put, lay1, lay2, lay3, lay4, lay5, lay6]
    refine wpAnyH_ready (rs := [1]) (by kernel_rfl) (by simp) ?_
    refine AllReadyH.cons rfl (fun K hK => ?_) AllReadyH.nil
    have hres : IsL W.drew (.slice (some ⟨w.heap.size + 1, 0, none⟩) a.length a.length) l := by have := Arr.isL hA.drew hbd (by omega); rw [hlen] at this; exact this
    go_simp
    refine (dbare_any _ _ _ hres).mono ?_
    rintro e w' ⟨q, rfl, hq, hfr, rfl⟩
    rw [HE1.out] at hq
    have hFr : Fresh w.heap.size q := fun g e => by have := hfr g e; cases this; exact Nat.le_succ _
    clear hfr
    go_wp2_with fail
    refine hK.out _ _ ?_ (fun hHeld => ?_)
    · exact ⟨hQ.cell, hR.cell⟩
    clear hK K
    try simp only [Act.put, lay1, lay2, lay3, lay4, lay5, lay6]
    refine wpAnyH_take (i := 3) (v := ?e_v3) rfl (by kernel_rfl) (by kernel_rfl) (by kernel_rfl) (fun _ _ _ h => h) (Or.inl ⟨by kernel_rfl, ?e_hy3⟩) (by assumption) ?e_rest3
    case e_hy3 => (intro w hSw; (try dsimp only at hSw); go_simp; try (with_reducible rfl))
    try simp only [Act.put, lay1, lay2, lay3, lay4, lay5, lay6]
    try dsimp only
    try simp only [Act.put, lay1, lay2, lay3, lay4, lay5, lay6]
    refine wpAnyH_take (i := 4) (v := ?e_v4) rfl (by kernel_rfl) (by kernel_rfl) (by kernel_rfl) (fun _ _ _ h => h) (Or.inl ⟨by kernel_rfl, ?e_hy4⟩) (by assumption) ?e_rest4
    case e_hy4 => (intro w hSw; (try dsimp only at hSw); go_simp; try (with_reducible rfl))
    try simp only [Act.put, lay1, lay2, lay3, lay4, lay5, lay6]
    try dsimp only
    try simp only [Act.put, lay1, lay2, lay3, lay4, lay5, lay6]
    refine wpAnyH_done (by kernel_rfl) ?_ _
    refine NoPanic.normal ?_
    gi_wp2
    have hK' : W.drew.heap[D]? = some (.deferred (some [])) := hKD.out
    have hBd : Below w.heap.size w W.drew := hBel.drew
    refine ⟨by simp, .inl ⟨_, _, rfl, run_takeDeferred hK', ?_⟩⟩
    refine ⟨.tuple #[q, .int .u64 rr], ?_, ⟨q, by rw [HRR.out], IsL.putObj hq hK' rfl, hFr, hBd.trans (belowK_b (w := w) (Nat.le_refl _) W.drew D _ (.deferred none) (by omega) hK' rfl rfl)⟩⟩
    simp [results, Tryz.f69, go_sem]
  case stop =>
    rintro D c pre W _ _ h _
    exact h.elim
theorem short_any (va : Value) (a : Nat) (b : Nat) (hb : 0 < b) (hb64 : b < W64) (w : World) (ha : IsN w va a) (hla : (limbs a).length ≤ 1000000) :
    Calls Tryz.prog 69 #[va, .int .u64 b] w fun e w' => ∃ q, e = .returned (.tuple #[q, .int .u64 ((a % b : Nat) : Int)]) ∧ IsN w' q (a / b) ∧ Fresh w.heap.size q ∧ Below w.heap.size w w' := by
  have := callsIn_wide.1 (short_in va _ b hb hb64 w ha hla)
  rwa [num_limbs] at this
end Go.Proofs.YtooonjcpdbbniaaGreatDoor
