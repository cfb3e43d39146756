/- nat.Cmp: of two rows of limbs. -/
import Derived.Test.YtgcebmgmmhdcpaaIter
import Derived.RangeFuncBox
import Derived.RangeFuncFrom
import Derived.Outline
namespace Go.Proofs.Ytgcebmgmmhdcpaa
open Go.RowKit Go.Shelf
attribute [local go_sem] Oper.semAt_some

theorem boxed_kept {W W' : World} {row : Option Nat} {B : Nat} {t : TypeId} {v : Value} (h : Boxed W B t v) (hg : W.grownBy W' row) (hr : ∀ r, row = some r → ∃ o : Obj, W.heap[r]? = some o ∧ o.isCells = false) : Boxed W' B t v :=
  h.kept hg (fun e => by obtain ⟨o, ho, hc⟩ := hr B e.symm; rw [show W.heap[B]? = _ from h] at ho; cases ho; cases hc)
theorem compare_int_in (n : Nat) (a b : Int) (w : World) :
    CallsIn Fence.wide n Try.prog 52 #[.int .i64 a, .int .i64 b] w fun e w' => e = .returned (.int .i64 (cmpI a b)) ∧ w = w' := callsIn_wide.2 (compare_int a b w)
theorem compare_u64_in (n : Nat) (a b : Int) (w : World) :
    CallsIn Fence.wide n Try.prog 54 #[.int .u64 a, .int .u64 b] w fun e w' => e = .returned (.int .i64 (cmpI a b)) ∧ w = w' := callsIn_wide.2 (compare_u64 a b w)

theorem cmpL_eq_of {a b : List Nat} {pre : List (Idx a.length)} (hl : a.length = b.length) (hp : ∀ x ∈ pre, lat b x.1 = lat a x.1) (hd : pre.map (·.1) = back a.length a.length) : cmpL a b = 0 := by
  have : a = b := by
    apply List.ext_getElem hl
    intro i h1 h2
    have hm : i ∈ back a.length a.length := by
      simp only [back, List.mem_map, List.mem_range]
      exact ⟨a.length - 1 - i, by omega, by omega⟩
    rw [← hd, List.mem_map] at hm
    obtain ⟨x, hx, rfl⟩ := hm
    have := hp x hx
    simp [lat, h1, h2] at this
    exact this.symm
  subst this
  simp [cmpL, cmpI]
theorem cmpL_ne_of {a b : List Nat} {pre : List (Idx a.length)} {x : Idx a.length} (hba : Bd a) (hbb : Bd b) (hl : a.length = b.length) (hd : ∃ k, k ≤ a.length ∧ (pre ++ [x]).map (·.1) = back a.length k)
    (hp : ∀ y ∈ pre, lat b y.1 = lat a y.1) (hne : lat b x.1 ≠ lat a x.1) : cmpL a b = cmpI (lat a x.1) (lat b x.1) := by
  obtain ⟨k, hk, hd⟩ := hd
  have hx := x.2
  have hlen := congrArg List.length hd
  rw [List.length_map, back_length, List.length_append, List.length_singleton] at hlen
  subst hlen
  rw [List.map_append, back_succ] at hd
  obtain ⟨h1, h2⟩ := List.append_inj' hd rfl
  simp at h2
  have htop : a.drop (x.1 + 1) = b.drop (x.1 + 1) := by
    apply List.ext_getElem (by simp; omega)
    intro j h3 h4
    simp at h3 h4
    have hm : x.1 + 1 + j ∈ back a.length pre.length := by
      simp only [back, List.mem_map, List.mem_range]
      exact ⟨a.length - 1 - (x.1 + 1 + j), by omega, by omega⟩
    rw [← h1, List.mem_map] at hm
    obtain ⟨y, hy, hye⟩ := hm
    have := hp y hy
    rw [hye] at this
    have e1 : x.1 + 1 + j < a.length := by omega
    have e2 : x.1 + 1 + j < b.length := by omega
    simp [lat, e1, e2] at this
    simp [this]
  unfold cmpL
  rw [if_pos hl]
  rcases Nat.lt_or_gt_of_ne hne with h | h
  · have := num_lt_of_top hbb hba x.1 (by omega) hl.symm htop.symm h
    rw [cmpI_gt (by omega), cmpI_gt (by omega)]
  · have := num_lt_of_top hba hbb x.1 (by omega) hl htop h
    rw [cmpI_lt (by omega), cmpI_lt (by omega)]

set_option maxRecDepth 100000 in
set_option maxHeartbeats 1000000 in
theorem cmp_in (va vb : Value) (a b : List Nat) (w : World) (ha : IsL w va a) (hb : IsL w vb b) :
    CallsIn Fence.wide 9 Try.prog 37 #[va, vb] w fun e w' => e = .returned (.int .i64 (cmpL a b)) ∧ Below w.heap.size w w' := by
  obtain ⟨A, ca, rfl, hac, hca, hba, hra⟩ := ha
  obtain ⟨B, cb, rfl, hbc, hcb, hbb, hrb⟩ := hb
  refine callsIn_of_wp_marks Try.func37 rfl trivial ?_ rfl
  simp only [Try.ntmps37, List.size_toArray, List.length_cons, List.length_nil, Nat.reduceAdd, Nat.reduceSub, Array.replicate_succ, Array.replicate_zero, List.push_toArray, List.append_toArray, List.nil_append, List.cons_append]
  by_cases hlen : a.length = b.length
  · have z : (cmpI (a.length : Int) (b.length : Int) != 0) = false := by rw [hlen, cmpI_eq]; rfl
    have hl := Lib.hid hlen
    clear hlen
    gi_wp2_with (first | (refine ⟨trivial, ?_⟩; gi_at_call 52; refine (compare_int_in _ _ _ _).mono ?_; rintro e w' ⟨rfl, rfl⟩) | (refine ⟨trivial, ?_⟩; gi_at_call 53; refine (backward_in Fence.wide _ trivial rfl _ _ _ _).mono ?_; rintro e w' ⟨rfl, rfl⟩))
    have bB := Boxed.new w 57 (.slice B b.length cb)
    have bR := Boxed.new (w.alloc (.cells #[.slice B b.length cb] 57)) 3 (.int .i64 0)
    have bI := Boxed.new ((w.alloc (.cells #[.slice B b.length cb] 57)).alloc (.cells #[.int .i64 0] 3)) 57 (.slice A a.length ca)
    simp only [World.size_alloc] at bR bI
    have hB0 : Below w.heap.size w (((w.alloc (.cells #[.slice B b.length cb] 57)).alloc (.cells #[.int .i64 0] 3)).alloc (.cells #[.slice A a.length ca] 57)) := (((Below.refl _ w).alloc (Nat.le_refl _) _).alloc (by simp) _).alloc (by simp; omega) _
    obtain ⟨W0, hW0⟩ : ∃ W0, W0 = (((w.alloc (.cells #[.slice B b.length cb] 57)).alloc (.cells #[.int .i64 0] 3)).alloc (.cells #[.slice A a.length ca] 57)) := ⟨_, rfl⟩
    have hsz : W0.heap.size = w.heap.size + 3 := by rw [hW0]; simp
    have bB' : Boxed W0 w.heap.size 57 (.slice B b.length cb) := by rw [hW0]; exact (bB.alloc _).alloc _
    have bR' : Boxed W0 (w.heap.size + 1) 3 (.int .i64 0) := by rw [hW0]; exact bR.alloc _
    rw [← hW0] at bI hB0 ⊢
    clear bB bR hW0
    refine wpIn_rangeFunc_ownF (n := 9) rfl (by omega) (gf := 62) (lb := #[.pointer (some ⟨w.heap.size + 1 + 1, 0, none⟩)]) rfl trivial (enters_of Try.func62 (by kernel_rfl) rfl)
      (backward_stops Fence.wide 8 trivial rfl (by omega) (w.heap.size + 1 + 1) W0.heap.size ca A a (by omega) W0 (by omega) (Nat.le_refl _) bI.cell ((hra.below hB0).more (by omega))) belowK_t (belowK_b (Nat.le_refl _)) (Below.refl _ _) (fun _ => rfl)
      (fun pre W => ((∀ x ∈ pre, lat b x.1 = lat a x.1) ∧ Boxed W w.heap.size 57 (.slice B b.length cb) ∧ Boxed W (w.heap.size + 1) 3 (.int .i64 0)) ∧ Below w.heap.size w W)
      (fun c pre W => (c = .ret ∧ (∃ pre' x, pre = pre' ++ [x] ∧ (∀ x ∈ pre', lat b x.1 = lat a x.1) ∧ lat b x.1 ≠ lat a x.1 ∧ Boxed W (w.heap.size + 1) 3 (.int .i64 (cmpI (lat a x.1) (lat b x.1))))) ∧ Below w.heap.size w W)
      ?oI ?oX ?st ?a1 ?assign ?body ?done ?stop
    case assign =>
      intro l x W K hK
      gi_wp2
      exact hK
    case oI => exact OwnFrom.and (Own.from (fun s X Y row hs hg hr => ⟨hs.1, boxed_kept hs.2.1 hg hr, boxed_kept hs.2.2 hg hr⟩) _) (ownFrom_below (by omega) (by omega))
    case oX => exact fun c => OwnFrom.and (Own.from (fun s X Y row hs hg hr => ⟨hs.1, by obtain ⟨p, x, h1, h2, h3, h4⟩ := hs.2; exact ⟨p, x, h1, h2, h3, boxed_kept h4 hg hr⟩⟩) _) (ownFrom_below (by omega) (by omega))
    case st => exact ⟨⟨by simp, bB', bR'⟩, hB0⟩
    case body =>
      rintro l pre x W ⟨⟨hp, hBx, hRx⟩, hBel⟩ hlt
      have hc1 := hBx.cell
      have hc2 := hRx.cell
      have hf2 := hRx.frozen
      have hxl := x.2
      have hl' : x.1 < b.length := by have := hl.out; omega
      obtain ⟨ad, rfl, hbb', hcx⟩ := us_cell (hrb.below hBel) hl'
      by_cases he : lat b x.1 = lat a x.1
      · have z : (cmpI (lat a x.1 : Nat) (lat b x.1 : Nat) != 0) = false := by rw [he, cmpI_eq]; rfl
        have he' := Lib.hid he
        clear he
        gi_wp2_with (first | (refine ⟨trivial, ?_⟩; gi_at_call 54; refine (CallsIn.inRound l (compare_u64_in _ _ _ _)).mono ?_; rintro e w' ⟨rfl, rfl⟩))
        exact ⟨KeepsOthers.refl _, Below.refl _ _, ⟨fun y hy => (List.mem_append.1 hy).elim (hp y) (fun e => by simp at e; subst e; exact he'.out), hBx, hRx⟩, hBel⟩
      · have z : (cmpI (lat a x.1 : Nat) (lat b x.1 : Nat) != 0) = true := by rw [bne_iff_ne]; intro h; have := cmpI_zero.1 h; omega
        gi_wp2_with (first | (refine ⟨trivial, ?_⟩; gi_at_call 54; refine (CallsIn.inRound l (compare_u64_in _ _ _ _)).mono ?_; rintro e w' ⟨rfl, rfl⟩))
        exact ⟨KeepsOthers.setCell _ _ _, ⟨rfl, pre, x, rfl, hp, he, hRx.set _⟩, hBel.setCell (p := ⟨w.heap.size + 1, 0, none⟩) (by simp) _⟩
    case done =>
      rintro D ys W hD hD2 ⟨⟨hp, hBx, hRx⟩, hBel⟩ hK
      have hc2 := hRx.cell
      have hf2 := hRx.frozen
      gi_wp2
      have hK' := (KeepsOthers.setCell W ⟨w.heap.size + 1, 0, none⟩ (.int .i64 0)).same D _ hK rfl
      refine ⟨by simp, .inl ⟨_, _, rfl, run_takeDeferred hK', ?_⟩⟩
      have hc5 := (boxed_kept (hRx.set (.int .i64 0)) (grownBy_putObj' _ D (.deferred none)) (fun r e => by cases e; exact ⟨_, hK', rfl⟩)).cell
      refine ⟨.int .i64 0, ?_, ?_, (hBel.setCell (p := ⟨w.heap.size + 1, 0, none⟩) (by simp) _).trans (belowK_b (w := w) (Nat.le_refl _) _ D _ _ (by omega) hK' rfl rfl)⟩
      · simp [results, Try.f37, go_sem, hc5]
      · exact ret_int (by rw [cmpL_eq_of hl.out hp hD2])
    case stop =>
      rintro D c pre W hD hpre ⟨⟨rfl, p, x, rfl, hp, hne, hRx⟩, hBel⟩ hK
      gi_wp2
      refine ⟨by simp, .inl ⟨_, _, rfl, run_takeDeferred hK, ?_⟩⟩
      have hc5 := (boxed_kept hRx (grownBy_putObj' _ D (.deferred none)) (fun r e => by cases e; exact ⟨_, hK, rfl⟩)).cell
      refine ⟨.int .i64 (cmpI (lat a x.1) (lat b x.1)), ?_, ?_, hBel.trans (belowK_b (w := w) (Nat.le_refl _) W D _ _ (by omega) hK rfl rfl)⟩
      · simp [results, Try.f37, go_sem, hc5]
      · exact ret_int (by rw [cmpL_ne_of hba hbb hl.out hpre hp hne])
  · have z : (cmpI (a.length : Int) (b.length : Int) != 0) = true := by rw [bne_iff_ne]; intro h; have := cmpI_zero.1 h; omega
    have hl := Lib.hid hlen
    clear hlen
    gi_wp2_with (first | (refine ⟨trivial, ?_⟩; gi_at_call 52; refine (compare_int_in _ _ _ _).mono ?_; rintro e w' ⟨rfl, rfl⟩))
    have hc5 := (Boxed.new (w.alloc (.cells #[.slice B b.length cb] 57)) 3 (.int .i64 (cmpI a.length b.length))).cell
    rw [World.size_alloc] at hc5
    refine ⟨.int .i64 (cmpI a.length b.length), ?_, ?_, ((Below.refl _ w).alloc (Nat.le_refl _) _).alloc (by simp) _⟩
    · simp [results, Try.f37, go_sem, hc5]
    · exact ret_int (by rw [cmpL, if_neg hl.out])

theorem cmp_any (va vb : Value) (a b : Nat) (w : World) (ha : IsN w va a) (hb : IsN w vb b) :
    Calls Try.prog 37 #[va, vb] w fun e w' => e = .returned (.int .i64 (cmpI a b)) ∧ Below w.heap.size w w' := by
  rw [← cmpL_limbs]
  exact callsIn_wide.1 (cmp_in va vb _ _ w ha hb)
end Go.Proofs.Ytgcebmgmmhdcpaa
