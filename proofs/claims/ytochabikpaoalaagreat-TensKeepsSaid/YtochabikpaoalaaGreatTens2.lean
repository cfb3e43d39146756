/- Package tens: Same. Printed by gen_tens2.py. -/
import Derived.Test.YtochabikpaoalaaGreatTens1
import Derived.Deep.RegionHeld3
import Derived.Deep.DrawnRows
namespace Go.Proofs.YtochabikpaoalaaGreat
open Go.RowKit
attribute [local go_sem ↓] Go.wp_at_zero Go.wp_at_succ
theorem bk_eq (k s : Int) (cs : List Nat) (wd : List Int) (k' s' : Int) (cs' : List Nat) (wd' : List Int) : (decide (k = k') && (decide (s = s') && (decide (cs = cs') && decide (wd = wd')))) = decide (((k, s, cs, wd) : Bk) = (k', s', cs', wd')) := by
  rw [Bool.eq_iff_iff]; simp
theorem take_ne {α : Type} {a b : List α} {j : Nat} {x y : α} (ha : a[j]? = some x) (hb : b[j]? = some y) (h : x ≠ y) : a ≠ b := by
  rintro rfl; rw [ha] at hb; exact h (Option.some.inj hb)
theorem take_all {α : Type} {a b : List α} (h : a.take a.length = b.take a.length) (hl : a.length = b.length) : a = b := by
  rw [List.take_length, hl, List.take_length] at h; exact h
theorem take_one {α : Type} {a b : List α} {j : Nat} {x : α} (h : a.take j = b.take j) (ha : a[j]? = some x) (hb : b[j]? = some x) : a.take (j + 1) = b.take (j + 1) := by
  obtain ⟨h1, rfl⟩ := List.getElem?_eq_some_iff.1 ha
  obtain ⟨h2, e⟩ := List.getElem?_eq_some_iff.1 hb
  rw [List.take_succ_eq_append_getElem h1, List.take_succ_eq_append_getElem h2, h, e]
set_option maxRecDepth 100000 in
set_option maxHeartbeats 4000000 in
theorem equalB_any (u v : Value) (aa bs : List Bk) (w : World) (ha : IsBs w u aa) (hb : IsBs w v bs) :
    Calls Tryz.prog 29 #[u, v, .func (.func 30) #[] #[]] w fun e w' => e = .returned (.bool (decide (aa = bs))) ∧ Below w.heap.size w w' := by
  obtain ⟨A, c, rfl, hc1, hc2⟩ := ha.len
  obtain ⟨A', c', rfl, hc3, hc4⟩ := hb.len
  by_cases hl : aa.length = bs.length
  · have hn : ((aa.length : Int) != (bs.length : Int)) = false := by rw [hl]; simp
    have hn2 : decide ((aa.length : Int) = (bs.length : Int)) = true := by rw [hl]; simp
    have HL := Lib.hid hl
    have hr := decide_eq_true (p := aa = bs)
    have hr2 := decide_eq_false (p := aa = bs)
    generalize hq : decide (aa = bs) = q at *
    have HQ := Lib.hid (And.intro hr hr2)
    clear hr hr2 hq hl
    go_enter Tryz.func29, Tryz.ntmps29
    go_wp2_with fail
    go_loopw [17] (fun i wr => ∃ j : Nat, i = .int .i64 j ∧ j ≤ aa.length ∧ Hid (aa.take j = bs.take j) ∧ Below w.heap.size w wr) (fun i _ => aa.length - (intOf i).toNat)
    case atStart => exact ⟨0, rfl, by omega, Lib.hid (by simp), Below.refl _ _⟩
    case round =>
      obtain ⟨j, rfl, hj, hej, bl⟩ := hrel
      by_cases hlt : j < aa.length
      · have hlt' : j < bs.length := by have := HL.out; omega
        obtain ⟨ad, d1, k1, s1, cs1, wd1, a1, b1, e1, _, hat1, x0, x1, x2, x3, hy1, hi1⟩ := (ha.below bl).at_ hlt
        obtain ⟨ad', d2, k2, s2, cs2, wd2, a2, b2, e2, hlt2, hat2, y0, y1, y2, y3, hy2, hi2⟩ := (hb.below bl).at_ hlt'
        obtain ⟨rfl, _, rfl⟩ := Value.slice.inj e1
        obtain ⟨rfl, _, rfl⟩ := Value.slice.inj e2
        obtain ⟨P1, Q1, rfl, _, _⟩ := id hy1.form
        obtain ⟨P2, Q2, rfl, _, _⟩ := id hi1.form
        obtain ⟨P3, Q3, rfl, _, _⟩ := id hy2.form
        obtain ⟨P4, Q4, rfl, _, _⟩ := id hi2.form
        have i0 : (0 : Int) ≤ (j : Int) := by omega
        have i1 : (j : Int) < (aa.length : Int) := by omega
        have i2 : (j : Int) < (bs.length : Int) := by omega
        have hB1 : IsBk wr (.agg #[.int .i64 k1, .int .i64 s1, .slice P1 cs1.length Q1, .slice P2 wd1.length Q2]) k1 s1 cs1 wd1 := ⟨_, _, rfl, hy1, hi1⟩
        have hB2 : IsBk wr (.agg #[.int .i64 k2, .int .i64 s2, .slice P3 cs2.length Q3, .slice P4 wd2.length Q4]) k2 s2 cs2 wd2 := ⟨_, _, rfl, hy2, hi2⟩
        have bA := balloc (Below.refl _ wr) (.cells #[.int .i64 k1, .int .i64 s1, .slice P1 cs1.length Q1, .slice P2 wd1.length Q2] 43)
        have bB := balloc bA (.cells #[.int .i64 k2, .int .i64 s2, .slice P3 cs2.length Q3, .slice P4 wd2.length Q4] 43)
        have hS := bsame_any _ _ k1 s1 cs1 wd1 k2 s2 cs2 wd2 _ (hB1.below bB) (hB2.below bB)
        have yh := fun (p : Addr) (hp : p.block < wr.heap.size) => World.cell?_alloc_lt wr (.cells #[.int .i64 k1, .int .i64 s1, .slice P1 cs1.length Q1, .slice P2 wd1.length Q2] 43) p hp
        have hbk : (ad'.add (j * 4)).block < wr.heap.size := by rw [block_of_add]; exact hlt2
        have z0 := (yh (ad'.add (j * 4)) hbk).trans y0
        have z1 := (yh ⟨(ad'.add (j * 4)).block, (ad'.add (j * 4)).off + 1, none⟩ hbk).trans y1
        have z2 := (yh ⟨(ad'.add (j * 4)).block, (ad'.add (j * 4)).off + 2, none⟩ hbk).trans y2
        have z3 := (yh ⟨(ad'.add (j * 4)).block, (ad'.add (j * 4)).off + 3, none⟩ hbk).trans y3
        rw [bk_eq] at hS
        have HAT := Lib.hid (And.intro hat1 hat2)
        have HB := Lib.hid (And.intro bA bB)
        clear yh hat1 hat2 y0 y1 y2 y3 bA bB hB1 hB2 hy1 hy2 hi1 hi2 hbk hlt2
        cases hd : decide (((k1, s1, cs1, wd1) : Bk) = (k2, s2, cs2, wd2))
        · rw [hd] at hS
          have hne := of_decide_eq_false hd
          obtain rfl : q = false := HQ.out.2 (take_ne HAT.out.1 HAT.out.2 hne)
          clear hd
          have HNE := Lib.hid hne
          clear hne
          go_wp2_with fail
          refine hS.mono ?_
          rintro e w1 ⟨rfl, b5⟩
          go_wp2
          go_ret
          exact ⟨rfl, bl.trans ((HB.out.2.trans (b5.mono HB.out.2.size)).mono bl.size)⟩
        · rw [hd] at hS
          have he := of_decide_eq_true hd
          have HE := Lib.hid (take_one hej.out HAT.out.1 (he ▸ HAT.out.2))
          clear hd he
          go_wp2_with fail
          refine hS.mono ?_
          rintro e w1 ⟨rfl, b5⟩
          go_wp2
          exact ⟨⟨j + 1, by go_num, by omega, HE, bl.trans ((HB.out.2.trans (b5.mono HB.out.2.size)).mono bl.size)⟩, by simp [intOf]; omega⟩
      · obtain rfl : j = aa.length := by omega
        obtain rfl : q = true := HQ.out.1 (take_all hej.out HL.out)
        go_wp2
        go_ret
        exact ⟨rfl, bl⟩
  · have hn : ((aa.length : Int) != (bs.length : Int)) = true := by rw [bne_iff_ne]; omega
    have hn2 : decide ((aa.length : Int) = (bs.length : Int)) = false := decide_eq_false (by omega)
    rw [decide_eq_false (fun e => hl (congrArg List.length e))]
    clear hl
    go_enter Tryz.func29, Tryz.ntmps29
    go_wp2
    go_ret
    exact ⟨rfl, Below.refl _ _⟩
set_option maxRecDepth 100000 in
set_option maxHeartbeats 4000000 in
theorem tsame_k (u v : Value) (k z m o n : Int) (bs : List Bk) (k' z' m' o' n' : Int) (bs' : List Bk) (w : World) (hu : IsSt w u (k, z, m, o, n, bs)) (hv : IsSt w v (k', z', m', o', n', bs'))  (hk : k ≠ k') :
    Calls Tryz.prog 12 #[u, v] w fun e w' => e = .returned (.bool false) ∧ Below w.heap.size w w' := by
  obtain ⟨x, rfl, hx⟩ := hu
  obtain ⟨y, rfl, hy⟩ := hv
  simp only at hx hy ⊢
  obtain ⟨A, c, rfl, _, _⟩ := hx.len
  obtain ⟨A', c', rfl, _, _⟩ := hy.len
  have e1 : (k == k') = false := by rw [beq_eq_false_iff_ne]; exact hk
  have e2 : decide (k = k') = false := decide_eq_false hk
  obtain ⟨W0, hW, hT, hB⟩ := box2 w 26 26 #[.int .i64 k, .int .i64 z, .int .i64 m, .int .i64 o, .int .i64 n, .slice A bs.length c] #[.int .i64 k', .int .i64 z', .int .i64 m', .int .i64 o', .int .i64 n', .slice A' bs'.length c']
  have hW' := Lib.hid hW
  clear hW
  obtain ⟨hX, hY⟩ := hT
  replace hx := hx.below hB
  replace hy := hy.below hB
  have x0 := hX.cell 0
  have y0 := hY.cell 0
  have x1 := hX.cell 1
  have y1 := hY.cell 1
  have x2 := hX.cell 2
  have y2 := hY.cell 2
  have x3 := hX.cell 3
  have y3 := hY.cell 3
  have x4 := hX.cell 4
  have y4 := hY.cell 4
  have x5 := hX.cell 5
  have y5 := hY.cell 5
  go_enter Tryz.func12, Tryz.ntmps12
  go_wp2
  go_ret
  exact ⟨rfl, by rw [← hW'.out]; exact hB⟩
set_option maxRecDepth 100000 in
set_option maxHeartbeats 4000000 in
theorem tsame_z (u v : Value) (k z m o n : Int) (bs : List Bk) (k' z' m' o' n' : Int) (bs' : List Bk) (w : World) (hu : IsSt w u (k, z, m, o, n, bs)) (hv : IsSt w v (k', z', m', o', n', bs')) (hk : k = k') (hz : z ≠ z') :
    Calls Tryz.prog 12 #[u, v] w fun e w' => e = .returned (.bool false) ∧ Below w.heap.size w w' := by
  obtain ⟨x, rfl, hx⟩ := hu
  obtain ⟨y, rfl, hy⟩ := hv
  simp only at hx hy ⊢
  obtain ⟨A, c, rfl, _, _⟩ := hx.len
  obtain ⟨A', c', rfl, _, _⟩ := hy.len
  subst hk
  have e1 : (z == z') = false := by rw [beq_eq_false_iff_ne]; exact hz
  have e2 : decide (z = z') = false := decide_eq_false hz
  obtain ⟨W0, hW, hT, hB⟩ := box2 w 26 26 #[.int .i64 k, .int .i64 z, .int .i64 m, .int .i64 o, .int .i64 n, .slice A bs.length c] #[.int .i64 k, .int .i64 z', .int .i64 m', .int .i64 o', .int .i64 n', .slice A' bs'.length c']
  have hW' := Lib.hid hW
  clear hW
  obtain ⟨hX, hY⟩ := hT
  replace hx := hx.below hB
  replace hy := hy.below hB
  have x0 := hX.cell 0
  have y0 := hY.cell 0
  have x1 := hX.cell 1
  have y1 := hY.cell 1
  have x2 := hX.cell 2
  have y2 := hY.cell 2
  have x3 := hX.cell 3
  have y3 := hY.cell 3
  have x4 := hX.cell 4
  have y4 := hY.cell 4
  have x5 := hX.cell 5
  have y5 := hY.cell 5
  go_enter Tryz.func12, Tryz.ntmps12
  go_wp2
  go_ret
  exact ⟨rfl, by rw [← hW'.out]; exact hB⟩
set_option maxRecDepth 100000 in
set_option maxHeartbeats 4000000 in
theorem tsame_m (u v : Value) (k z m o n : Int) (bs : List Bk) (k' z' m' o' n' : Int) (bs' : List Bk) (w : World) (hu : IsSt w u (k, z, m, o, n, bs)) (hv : IsSt w v (k', z', m', o', n', bs')) (hk : k = k') (hz : z = z') (hm : m ≠ m') :
    Calls Tryz.prog 12 #[u, v] w fun e w' => e = .returned (.bool false) ∧ Below w.heap.size w w' := by
  obtain ⟨x, rfl, hx⟩ := hu
  obtain ⟨y, rfl, hy⟩ := hv
  simp only at hx hy ⊢
  obtain ⟨A, c, rfl, _, _⟩ := hx.len
  obtain ⟨A', c', rfl, _, _⟩ := hy.len
  subst hk
  subst hz
  have e1 : (m == m') = false := by rw [beq_eq_false_iff_ne]; exact hm
  have e2 : decide (m = m') = false := decide_eq_false hm
  obtain ⟨W0, hW, hT, hB⟩ := box2 w 26 26 #[.int .i64 k, .int .i64 z, .int .i64 m, .int .i64 o, .int .i64 n, .slice A bs.length c] #[.int .i64 k, .int .i64 z, .int .i64 m', .int .i64 o', .int .i64 n', .slice A' bs'.length c']
  have hW' := Lib.hid hW
  clear hW
  obtain ⟨hX, hY⟩ := hT
  replace hx := hx.below hB
  replace hy := hy.below hB
  have x0 := hX.cell 0
  have y0 := hY.cell 0
  have x1 := hX.cell 1
  have y1 := hY.cell 1
  have x2 := hX.cell 2
  have y2 := hY.cell 2
  have x3 := hX.cell 3
  have y3 := hY.cell 3
  have x4 := hX.cell 4
  have y4 := hY.cell 4
  have x5 := hX.cell 5
  have y5 := hY.cell 5
  go_enter Tryz.func12, Tryz.ntmps12
  go_wp2
  go_ret
  exact ⟨rfl, by rw [← hW'.out]; exact hB⟩
set_option maxRecDepth 100000 in
set_option maxHeartbeats 4000000 in
theorem tsame_o (u v : Value) (k z m o n : Int) (bs : List Bk) (k' z' m' o' n' : Int) (bs' : List Bk) (w : World) (hu : IsSt w u (k, z, m, o, n, bs)) (hv : IsSt w v (k', z', m', o', n', bs')) (hk : k = k') (hz : z = z') (hm : m = m') (ho : o ≠ o') :
    Calls Tryz.prog 12 #[u, v] w fun e w' => e = .returned (.bool false) ∧ Below w.heap.size w w' := by
  obtain ⟨x, rfl, hx⟩ := hu
  obtain ⟨y, rfl, hy⟩ := hv
  simp only at hx hy ⊢
  obtain ⟨A, c, rfl, _, _⟩ := hx.len
  obtain ⟨A', c', rfl, _, _⟩ := hy.len
  subst hk
  subst hz
  subst hm
  have e1 : (o == o') = false := by rw [beq_eq_false_iff_ne]; exact ho
  have e2 : decide (o = o') = false := decide_eq_false ho
  obtain ⟨W0, hW, hT, hB⟩ := box2 w 26 26 #[.int .i64 k, .int .i64 z, .int .i64 m, .int .i64 o, .int .i64 n, .slice A bs.length c] #[.int .i64 k, .int .i64 z, .int .i64 m, .int .i64 o', .int .i64 n', .slice A' bs'.length c']
  have hW' := Lib.hid hW
  clear hW
  obtain ⟨hX, hY⟩ := hT
  replace hx := hx.below hB
  replace hy := hy.below hB
  have x0 := hX.cell 0
  have y0 := hY.cell 0
  have x1 := hX.cell 1
  have y1 := hY.cell 1
  have x2 := hX.cell 2
  have y2 := hY.cell 2
  have x3 := hX.cell 3
  have y3 := hY.cell 3
  have x4 := hX.cell 4
  have y4 := hY.cell 4
  have x5 := hX.cell 5
  have y5 := hY.cell 5
  go_enter Tryz.func12, Tryz.ntmps12
  go_wp2
  go_ret
  exact ⟨rfl, by rw [← hW'.out]; exact hB⟩
set_option maxRecDepth 100000 in
set_option maxHeartbeats 4000000 in
theorem tsame_n (u v : Value) (k z m o n : Int) (bs : List Bk) (k' z' m' o' n' : Int) (bs' : List Bk) (w : World) (hu : IsSt w u (k, z, m, o, n, bs)) (hv : IsSt w v (k', z', m', o', n', bs')) (hk : k = k') (hz : z = z') (hm : m = m') (ho : o = o') (hn : n ≠ n') :
    Calls Tryz.prog 12 #[u, v] w fun e w' => e = .returned (.bool false) ∧ Below w.heap.size w w' := by
  obtain ⟨x, rfl, hx⟩ := hu
  obtain ⟨y, rfl, hy⟩ := hv
  simp only at hx hy ⊢
  obtain ⟨A, c, rfl, _, _⟩ := hx.len
  obtain ⟨A', c', rfl, _, _⟩ := hy.len
  subst hk
  subst hz
  subst hm
  subst ho
  have e1 : (n == n') = false := by rw [beq_eq_false_iff_ne]; exact hn
  have e2 : decide (n = n') = false := decide_eq_false hn
  obtain ⟨W0, hW, hT, hB⟩ := box2 w 26 26 #[.int .i64 k, .int .i64 z, .int .i64 m, .int .i64 o, .int .i64 n, .slice A bs.length c] #[.int .i64 k, .int .i64 z, .int .i64 m, .int .i64 o, .int .i64 n', .slice A' bs'.length c']
  have hW' := Lib.hid hW
  clear hW
  obtain ⟨hX, hY⟩ := hT
  replace hx := hx.below hB
  replace hy := hy.below hB
  have x0 := hX.cell 0
  have y0 := hY.cell 0
  have x1 := hX.cell 1
  have y1 := hY.cell 1
  have x2 := hX.cell 2
  have y2 := hY.cell 2
  have x3 := hX.cell 3
  have y3 := hY.cell 3
  have x4 := hX.cell 4
  have y4 := hY.cell 4
  have x5 := hX.cell 5
  have y5 := hY.cell 5
  go_enter Tryz.func12, Tryz.ntmps12
  go_wp2
  go_ret
  exact ⟨rfl, by rw [← hW'.out]; exact hB⟩
set_option maxRecDepth 100000 in
set_option maxHeartbeats 4000000 in
theorem tsame_all (u v : Value) (k z m o n : Int) (bs : List Bk) (k' z' m' o' n' : Int) (bs' : List Bk) (w : World) (hu : IsSt w u (k, z, m, o, n, bs)) (hv : IsSt w v (k', z', m', o', n', bs')) (hk : k = k') (hz : z = z') (hm : m = m') (ho : o = o') (hn : n = n') :
    Calls Tryz.prog 12 #[u, v] w fun e w' => e = .returned (.bool (decide (bs = bs'))) ∧ Below w.heap.size w w' := by
  obtain ⟨x, rfl, hx⟩ := hu
  obtain ⟨y, rfl, hy⟩ := hv
  simp only at hx hy ⊢
  obtain ⟨A, c, rfl, _, _⟩ := hx.len
  obtain ⟨A', c', rfl, _, _⟩ := hy.len
  subst hk
  subst hz
  subst hm
  subst ho
  subst hn
  obtain ⟨W0, hW, hT, hB⟩ := box2 w 26 26 #[.int .i64 k, .int .i64 z, .int .i64 m, .int .i64 o, .int .i64 n, .slice A bs.length c] #[.int .i64 k, .int .i64 z, .int .i64 m, .int .i64 o, .int .i64 n, .slice A' bs'.length c']
  have hW' := Lib.hid hW
  clear hW
  obtain ⟨hX, hY⟩ := hT
  replace hx := hx.below hB
  replace hy := hy.below hB
  have x0 := hX.cell 0
  have y0 := hY.cell 0
  have x1 := hX.cell 1
  have y1 := hY.cell 1
  have x2 := hX.cell 2
  have y2 := hY.cell 2
  have x3 := hX.cell 3
  have y3 := hY.cell 3
  have x4 := hX.cell 4
  have y4 := hY.cell 4
  have x5 := hX.cell 5
  have y5 := hY.cell 5
  go_enter Tryz.func12, Tryz.ntmps12
  go_wp2_with fail
  rw [← hW'.out]
  refine (equalB_any _ _ bs bs' _ hx hy).mono ?_
  rintro e w1 ⟨rfl, b1⟩
  go_wp2
  go_ret
  exact ⟨rfl, hB.trans (b1.mono hB.size)⟩
/-- are they the same? -/
def eqS (s s' : St) : Bool := decide (s.1 = s'.1) && (decide (s.2.1 = s'.2.1) && (decide (s.2.2.1 = s'.2.2.1) && (decide (s.2.2.2.1 = s'.2.2.2.1) && (decide (s.2.2.2.2.1 = s'.2.2.2.2.1) && decide (s.2.2.2.2.2 = s'.2.2.2.2.2)))))
theorem eqS_iff {s s' : St} : eqS s s' = true ↔ s = s' := by
  obtain ⟨k, z, m, o, n, bs⟩ := s
  obtain ⟨k', z', m', o', n', bs'⟩ := s'
  simp [eqS]
theorem eqS_refl (s : St) : eqS s s = true := eqS_iff.2 rfl
theorem tsame_any (u v : Value) (s s' : St) (w : World) (hu : IsSt w u s) (hv : IsSt w v s') :
    Calls Tryz.prog 12 #[u, v] w fun e w' => e = .returned (.bool (eqS s s')) ∧ Below w.heap.size w w' := by
  obtain ⟨k, z, m, o, n, bs⟩ := s
  obtain ⟨k', z', m', o', n', bs'⟩ := s'
  unfold eqS
  simp only
  by_cases hk : k = k'
  · by_cases hz : z = z'
    · by_cases hm : m = m'
      · by_cases ho : o = o'
        · by_cases hn : n = n'
          · rw [decide_eq_true hk, decide_eq_true hz, decide_eq_true hm, decide_eq_true ho, decide_eq_true hn]
            exact tsame_all u v k z m o n bs k' z' m' o' n' bs' w hu hv hk hz hm ho hn
          · rw [decide_eq_false hn, Bool.false_and, Bool.and_false, Bool.and_false, Bool.and_false, Bool.and_false]; exact tsame_n u v k z m o n bs k' z' m' o' n' bs' w hu hv hk hz hm ho hn
        · rw [decide_eq_false ho, Bool.false_and, Bool.and_false, Bool.and_false, Bool.and_false]; exact tsame_o u v k z m o n bs k' z' m' o' n' bs' w hu hv hk hz hm ho
      · rw [decide_eq_false hm, Bool.false_and, Bool.and_false, Bool.and_false]; exact tsame_m u v k z m o n bs k' z' m' o' n' bs' w hu hv hk hz hm
    · rw [decide_eq_false hz, Bool.false_and, Bool.and_false]; exact tsame_z u v k z m o n bs k' z' m' o' n' bs' w hu hv hk hz
  · rw [decide_eq_false hk, Bool.false_and]; exact tsame_k u v k z m o n bs k' z' m' o' n' bs' w hu hv hk
end Go.Proofs.YtochabikpaoalaaGreat
