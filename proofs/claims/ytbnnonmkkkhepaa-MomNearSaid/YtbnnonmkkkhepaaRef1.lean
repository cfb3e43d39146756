/- Walks of the reference's small functions on limbs: Few, Right, Bare, Of, Small, Cmp, Same, Bits, at, halves, whole. -/
import Derived.Test.YtbnnonmkkkhepaaNat1
import Derived.Test.YtbnnonmkkkhepaaApp
import Derived.StillTailTactics
import Derived.Outline
import Derived.Deep.QuietTactic
import Derived.BigQuiet
import Derived.LoopTactic
namespace Go.Proofs.Ytbnnonmkkkhepaa
open Go.RowKit

set_option maxHeartbeats 400000 in
theorem rsmall_any (v : Value) (l : List Nat) (w : World) (h : IsL w v l) :
    Calls Try.prog 76 #[v] w fun e w' => e = .returned (if l.length ≤ 1 then .tuple #[.int .u64 (lat l 0 : Nat), .bool true] else .tuple #[.int .u64 0, .bool false]) ∧ w = w' := by
  obtain ⟨A, c, rfl, hlc, hc, hbd, hr⟩ := h
  rcases l with _ | ⟨x, _ | ⟨y, r⟩⟩
  · go_enter Try.func76, Try.ntmps76
    go_wp2
    go_ret2
    exact ⟨rfl, rfl⟩
  · obtain ⟨ad, rfl, hb, hcell⟩ := us_cell0 hr (by simp)
    go_enter Try.func76, Try.ntmps76
    go_wp2
    go_ret2
    exact ⟨rfl, rfl⟩
  · have e0 : (((r.length + 1 + 1 : Nat) : Int) == 0) = false := by rw [beq_eq_false_iff_ne]; omega
    go_enter Try.func76, Try.ntmps76
    go_wp2
    go_ret2
    exact ⟨by simp, rfl⟩

theorem rat_any (v : Value) (l : List Nat) (i : Nat) (w : World) (h : IsL w v l) :
    Calls Try.prog 71 #[v, .int .i64 i] w fun e w' => e = .returned (.int .u64 (lat l i : Nat)) ∧ w = w' := by
  obtain ⟨A, c, rfl, hlc, hc, hbd, hr⟩ := h
  by_cases h : i < l.length
  · obtain ⟨ad, rfl, hb, hc⟩ := us_cell hr h
    go_enter Try.func71, Try.ntmps71
    go_wp2
    go_ret
    exact ⟨rfl, rfl⟩
  · rw [lat_ge (by omega)]
    go_enter Try.func71, Try.ntmps71
    go_wp2
    go_ret
    exact ⟨rfl, rfl⟩

set_option maxHeartbeats 400000 in
theorem rcmp_any (va vb : Value) (a b : List Nat) (w : World) (ha : IsL w va a) (hb : IsL w vb b) :
    Calls Try.prog 49 #[va, vb] w fun e w' => e = .returned (.int .i64 (cmpL a b)) ∧ ∃ n, w' = w.drewN n := by
  obtain ⟨A, ca, rfl, hac, hca, hba, hra⟩ := ha
  obtain ⟨B, cb, rfl, hbc, hcb, hbb, hrb⟩ := hb
  by_cases hlen : a.length = b.length
  · have e1 : ((a.length : Int) != (b.length : Int)) = false := by simp [hlen]
    have hl := Lib.hid hlen
    clear hlen
    go_enter Try.func49, Try.ntmps49
    go_wp2
    go_loopw [5] (fun i wr => ∃ (m n : Nat), m ≤ a.length ∧ i = .int .i64 ((m : Int) - 1) ∧ Hid (a.drop m = b.drop m) ∧ wr = w.drewN n) (fun i _ => (intOf i + 1).toNat)
    case atStart => exact ⟨a.length, 0, Nat.le_refl _, rfl, Lib.hid (by rw [List.drop_length, hl.out, List.drop_length]), rfl⟩
    case round =>
      obtain ⟨m, n, hm, rfl, hd, rfl⟩ := hrel
      have hmb : m ≤ b.length := by have := hl.out; omega
      by_cases h0 : 0 < m
      · obtain ⟨ad, rfl, _, hx⟩ := us_cell hra (k := m - 1) (by omega)
        obtain ⟨bd, rfl, _, hy⟩ := us_cell hrb (k := m - 1) (by omega)
        have et : a.drop (m - 1 + 1) = b.drop (m - 1 + 1) := by rw [Nat.sub_add_cancel h0]; exact hd.out
        rcases Nat.lt_trichotomy (lat a (m - 1)) (lat b (m - 1)) with h | h | h
        · have hc := num_lt_of_top hba hbb (m - 1) (by omega) hl.out et h
          have hcc : Hid (cmpL a b = -1) := by rw [Hid, cmpL, if_pos hl.out, cmpI_lt (by omega)]
          clear hc et
          go_wp2
          go_quiet (fail)
          go_wp2
          go_ret
          exact ⟨ret_int hcc.out.symm, _, by first | rfl | (simp only [World.drewN_drewN]; rfl)⟩
        · have hd' : Hid (a.drop (m - 1) = b.drop (m - 1)) := by rw [Hid, drop_lat a _ (by omega), drop_lat b _ (by omega), et, h]
          rw [h] at hx
          clear et h
          go_wp2
          go_quiet (fail)
          go_wp2
          go_quiet (fail)
          go_wp2
          exact ⟨⟨m - 1, _, by omega, by go_num, hd', by first | rfl | (simp only [World.drewN_drewN]; rfl)⟩, by simp [intOf]; omega⟩
        · have hc := num_lt_of_top hbb hba (m - 1) (by omega) hl.out.symm et.symm h
          have hcc : Hid (cmpL a b = 1) := by rw [Hid, cmpL, if_pos hl.out, cmpI_gt (by omega)]
          clear hc et
          have h' : lat b (m - 1) ≤ lat a (m - 1) := by omega
          go_wp2
          go_quiet (fail)
          go_wp2
          go_quiet (fail)
          go_wp2
          go_ret
          exact ⟨ret_int hcc.out.symm, _, by first | rfl | (simp only [World.drewN_drewN]; rfl)⟩
      · obtain rfl : m = 0 := by omega
        go_wp2
        go_ret
        have : a = b := by simpa using hd.out
        exact ⟨ret_int (by rw [this]; simp [cmpL, cmpI]), _, rfl⟩
  · have e1 : ((a.length : Int) != (b.length : Int)) = true := by simp; omega
    have e0 : cmpL a b = cmpI a.length b.length := by rw [cmpL, if_neg hlen]
    rw [e0]
    clear e0
    rcases Nat.lt_or_gt_of_ne hlen with h | h
    · rw [cmpI_lt (by omega)]
      go_enter Try.func49, Try.ntmps49
      go_wp2
      go_ret
      exact ⟨rfl, 0, rfl⟩
    · rw [cmpI_gt (by omega)]
      have h' : b.length ≤ a.length := by omega
      go_enter Try.func49, Try.ntmps49
      go_wp2
      go_ret
      exact ⟨rfl, 0, rfl⟩

set_option maxHeartbeats 400000 in
theorem rbare_f (v : Value) (l : List Nat) (w : World) (h : IsL w v l) (hl : l.length ≤ 10000000) :
    Calls Try.prog 70 #[v] w fun e w' => ∃ v', e = .returned v' ∧ IsN w' v' (num l) ∧ Below w.heap.size w w' ∧ Fresh w.heap.size v' := by
  obtain ⟨A, c, rfl, hlc, hc, hbd, hr⟩ := h
  obtain ⟨i0, hi, hz0, hz1, hz2⟩ := info_parts info_u64
  go_enter Try.func70, Try.ntmps70
  go_wp2
  go_loop [3] (fun a => ∃ k : Nat, k ≤ l.length ∧ a = .int .i64 k ∧ Hid (num (l.take k) = num l)) (fun a => (intOf a).toNat)
  case atStart => exact ⟨l.length, Nat.le_refl _, rfl, by rw [List.take_length]; exact Lib.hid rfl⟩
  case round =>
    obtain ⟨k, hk, rfl, hn⟩ := hrel
    have fin : (k = 0 ∨ lat l (k - 1) ≠ 0) → limbs (num l) = l.take k := fun h => limbs_of_take hbd hn.out hk h
    by_cases h0 : 0 < k
    · obtain ⟨ad, rfl, _, hx⟩ := us_cell hr (k := k - 1) (by omega)
      by_cases hz : lat l (k - 1) = 0
      · rw [hz] at hx
        go_wp2
        go_round
        case rel => exact ⟨k - 1, by omega, by go_num, Lib.hid ((num_take_pred h0 hz).trans hn.out)⟩
        case measure => simp [intOf]; omega
      · have hz' : (((lat l (k - 1) : Nat) : Int) == 0) = false := by simp; omega
        have fin' := Lib.hid (fin (.inr hz))
        clear fin
        have hown := World.ownsRow_lit w #[] 0 (base := w.heap.size) (e := 84) (size := 1) (Nat.le_refl _) (by unfold maxLen; omega) rfl
        go_wp2_with (at_builtin; refine wpList_append_any _ rfl (.tmp 18) (.tmp 21) _ rfl w.heap.size 84 i0 _ 1 8 Try.underlying36 hi hz0 hz1 hz2 rfl (by omega) _ 0 [] rfl hown w.heap.size (some ad) k c (us (l.take k)) rfl ((hr.shorter hk).alloc (Nat.le_refl _) _) (us_one _) (by unfold maxLen; omega) (by omega) (by simp) ?_; intro v' w' hown' hgrow hat)
        go_ret
        refine ⟨_, rfl, ?_, ((Below.refl _ w).alloc (Nat.le_refl _) _).grown hgrow (by simp) (fun g e => by cases e; exact Nat.le_refl _), Fresh.of_own hown'⟩
        rw [Nat.zero_add, List.nil_append] at hown'
        exact IsN.of_own (by rw [fin'.out]; simpa [hk] using hown')
    · obtain rfl : k = 0 := by omega
      have fin' := Lib.hid (fin (.inl rfl))
      clear fin
      have hown := World.ownsRow_lit w #[] 0 (base := w.heap.size) (e := 84) (size := 1) (Nat.le_refl _) (by unfold maxLen; omega) rfl
      go_wp2_with (at_builtin; refine wpList_append_any _ rfl (.tmp 18) (.tmp 21) _ rfl w.heap.size 84 i0 _ 1 8 Try.underlying36 hi hz0 hz1 hz2 rfl (by omega) _ 0 [] rfl hown w.heap.size A 0 c (us (l.take 0)) rfl ((hr.shorter hk).alloc (Nat.le_refl _) _) (us_one _) (by unfold maxLen; omega) (by omega) (by simp) ?_; intro v' w' hown' hgrow hat)
      go_ret
      refine ⟨_, rfl, ?_, ((Below.refl _ w).alloc (Nat.le_refl _) _).grown hgrow (by simp) (fun g e => by cases e; exact Nat.le_refl _), Fresh.of_own hown'⟩
      exact IsN.of_own (by rw [fin'.out]; simpa using hown')
theorem rbare_any (v : Value) (l : List Nat) (w : World) (h : IsL w v l) (hl : l.length ≤ 10000000) :
    Calls Try.prog 70 #[v] w fun e w' => ∃ v', e = .returned v' ∧ IsN w' v' (num l) ∧ Below w.heap.size w w' :=
  (rbare_f v l w h hl).mono fun _ _ ⟨v', h1, h2, h3, _⟩ => ⟨v', h1, h2, h3⟩
end Go.Proofs.Ytbnnonmkkkhepaa
