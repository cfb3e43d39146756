/- A place's step by the document (layer 17). Printed by gen_step17.py. -/
import Derived.Test.YtbnnonmkkkhepaaNum17
import Derived.Test.YtbnnonmkkkhepaaInv
import Derived.Deep.RegionHeld3
import Derived.Deep.DrawnRows
import Derived.Deep.DeepCutAuto
namespace Go.Proofs.Ytbnnonmkkkhepaa
open Go.RowKit
attribute [local go_sem ↓] Go.wp_at_zero Go.wp_at_succ


def mulN (k : Nat) (a b : Int × Bool) : Int × Bool := (fitV (mulZ a.1 b.1 k), a.2 && (b.2 && decide (fitE (mulZ a.1 b.1 k) = 0)))
def addN (a b : Int × Bool) : Int × Bool := (fitV (a.1 + b.1), a.2 && (b.2 && decide (fitE (a.1 + b.1) = 0)))
def subN (a b : Int × Bool) : Int × Bool := (fitV (a.1 - b.1), a.2 && (b.2 && decide (fitE (a.1 - b.1) = 0)))
def decN (wd : Int) (k : Nat) (x gr : Int) : Int × Bool := addN (gr, true) (mulN k (wd, true) (x, true))
def velN (mu wd : Int) (k : Nat) (x v gr : Int) : Int × Bool := addN (mulN k (mu, true) (v, true)) (decN wd k x gr)
def lookN (mu wd : Int) (nest : Bool) (k : Nat) (x v gr : Int) : Int × Bool := bif nest then addN (decN wd k x gr) (mulN k (mu, true) (velN mu wd k x v gr)) else velN mu wd k x v gr
def newN (lr mu wd : Int) (nest : Bool) (k : Nat) (x v gr : Int) : Int × Bool := subN (x, true) (mulN k (lr, true) (lookN mu wd nest k x v gr))
theorem box22 (w : World) (t1 t2 t3 t4 : TypeId) (c1 c2 c3 c4 : Array Value) : ∃ W, W = (((w.alloc (.cells c1 t1)).alloc (.cells c2 t2)).alloc (.cells c3 t3)).alloc (.cells c4 t4) ∧ Blk W w.heap.size t1 c1 ∧ Blk W (w.heap.size + 1) t2 c2 ∧ Blk W (w.heap.size + 1 + 1) t3 c3 ∧ Blk W (w.heap.size + 1 + 1 + 1) t4 c4 ∧ Below w.heap.size w W := by
  obtain ⟨W0, h0, ⟨a, b⟩, c, hb⟩ := box3 w t1 t2 t3 c1 c2 c3
  refine ⟨W0.alloc (.cells c4 t4), by rw [h0], a.alloc _, b.alloc _, c.alloc _, ?_, hb.alloc hb.size _⟩
  have := Blk.new W0 t4 c4
  rwa [show W0.heap.size = w.heap.size + 1 + 1 + 1 by rw [h0]; simp] at this
theorem results_cell2_row {P : Program} {fn : Func} {p q : Tmp} {ty : TypeId} (h : fn.results = #[.cell p ty, .cell q ty]) (tmps : Array Value) (w : World) (g1 g2 : Nat) (t : TypeId) (c1 c2 : Array Value) (d : TypeDesc)
    (hp : tmps.getD p undef = .pointer (some ⟨g1, 0, none⟩)) (hq : tmps.getD q undef = .pointer (some ⟨g2, 0, none⟩)) (b1 : Blk w g1 t c1) (b2 : Blk w g2 t c2)
    (hu : P.underlying ty = some d) (hd : (match d with | .struct _ | .array _ _ => true | _ => false) = true) (i1 : (P.info? ty).map (·.size) = some c1.size) (i2 : (P.info? ty).map (·.size) = some c2.size) :
    (results fn tmps).run P w = .ok (.tuple #[.agg c1, .agg c2]) w := by
  have hp' : tmps[p]?.getD undef = .pointer (some ⟨g1, 0, none⟩) := by simpa using hp
  have hq' : tmps[q]?.getD undef = .pointer (some ⟨g2, 0, none⟩) := by simpa using hq
  simp [results, h, hp', hq', asAddr, run_loadVar_row w g1 t ty c1 _ d b1 hu hd i1, run_loadVar_row w g2 t ty c2 _ d b2 hu hd i2]
set_option maxRecDepth 100000 in
set_option maxHeartbeats 8000000 in
theorem step17_any (lr mu wd : Int) (nest : Bool) (k : Nat) (x v gr : Int) (wS : World) (hk : k ≤ 40) (hlr : In64 lr) (hmu : In64 mu) (hwd : In64 wd) (hx : In64 x) (hv : In64 v) (hg : In64 gr) :
    Calls Try.prog 25 #[.agg #[.int .i64 lr, .int .i64 mu, .int .i64 wd, .bool nest], .int .i64 k, .agg #[.int .i64 x, .int .i64 v, .int .i64 gr]] wS fun e w' => e = .returned (.tuple #[num17 (velN mu wd k x v gr).1 (velN mu wd k x v gr).2, num17 (newN lr mu wd nest k x v gr).1 (newN lr mu wd nest k x v gr).2]) ∧ Below wS.heap.size wS w' := by
  have hOf := fun n w => of17_any n w
  have hMul : ∀ (p q : Int × Bool) (w : World), In64 p.1 → In64 q.1 → Calls Try.prog 42 #[num17 p.1 p.2, num17 q.1 q.2, .int .i64 k] w fun e w' => e = .returned (num17 (mulN k p q).1 (mulN k p q).2) ∧ Below w.heap.size w w' := fun p q w f1 f2 => mul17_any p.1 q.1 p.2 q.2 k hk w f1 f2
  have hAdd : ∀ (p q : Int × Bool) (w : World), In64 p.1 → In64 q.1 → Calls Try.prog 41 #[num17 p.1 p.2, num17 q.1 q.2] w fun e w' => e = .returned (num17 (addN p q).1 (addN p q).2) ∧ Below w.heap.size w w' := fun p q w f1 f2 => add17_any p.1 q.1 p.2 q.2 w f1 f2
  have hSub : ∀ (p q : Int × Bool) (w : World), In64 p.1 → In64 q.1 → Calls Try.prog 43 #[num17 p.1 p.2, num17 q.1 q.2] w fun e w' => e = .returned (num17 (subN p q).1 (subN p q).2) ∧ Below w.heap.size w w' := fun p q w f1 f2 => sub17_any p.1 q.1 p.2 q.2 w f1 f2
  have iM : ∀ p q, In64 (mulN k p q).1 := fun p q => fitV_in _
  have iA : ∀ p q, In64 (addN p q).1 := fun p q => fitV_in _
  obtain ⟨p1, e1⟩ : ∃ p, p = mulN k (wd, true) (x, true) := ⟨_, rfl⟩
  obtain ⟨p2, e2⟩ : ∃ p, p = addN (gr, true) p1 := ⟨_, rfl⟩
  obtain ⟨p3, e3⟩ : ∃ p, p = mulN k (mu, true) (v, true) := ⟨_, rfl⟩
  obtain ⟨p4, e4⟩ : ∃ p, p = addN p3 p2 := ⟨_, rfl⟩
  obtain ⟨p5, e5⟩ : ∃ p, p = mulN k (mu, true) p4 := ⟨_, rfl⟩
  obtain ⟨p6, e6⟩ : ∃ p, p = addN p2 p5 := ⟨_, rfl⟩
  have f1 : ∀ w, Calls Try.prog 42 #[num17 wd true, num17 x true, .int .i64 k] w fun e w' => e = .returned (num17 p1.1 p1.2) ∧ Below w.heap.size w w' := fun w => by rw [e1]; exact hMul (wd, true) (x, true) w hwd hx
  have f2 : ∀ w, Calls Try.prog 41 #[num17 gr true, num17 p1.1 p1.2] w fun e w' => e = .returned (num17 p2.1 p2.2) ∧ Below w.heap.size w w' := fun w => by rw [e2]; exact hAdd (gr, true) p1 w hg (by rw [e1]; exact iM _ _)
  have f3 : ∀ w, Calls Try.prog 42 #[num17 mu true, num17 v true, .int .i64 k] w fun e w' => e = .returned (num17 p3.1 p3.2) ∧ Below w.heap.size w w' := fun w => by rw [e3]; exact hMul (mu, true) (v, true) w hmu hv
  have f4 : ∀ w, Calls Try.prog 41 #[num17 p3.1 p3.2, num17 p2.1 p2.2] w fun e w' => e = .returned (num17 p4.1 p4.2) ∧ Below w.heap.size w w' := fun w => by rw [e4]; exact hAdd p3 p2 w (by rw [e3]; exact iM _ _) (by rw [e2]; exact iA _ _)
  have f5 : ∀ w, Calls Try.prog 42 #[num17 mu true, num17 p4.1 p4.2, .int .i64 k] w fun e w' => e = .returned (num17 p5.1 p5.2) ∧ Below w.heap.size w w' := fun w => by rw [e5]; exact hMul (mu, true) p4 w hmu (by rw [e4]; exact iA _ _)
  have f6 : ∀ w, Calls Try.prog 41 #[num17 p2.1 p2.2, num17 p5.1 p5.2] w fun e w' => e = .returned (num17 p6.1 p6.2) ∧ Below w.heap.size w w' := fun w => by rw [e6]; exact hAdd p2 p5 w (by rw [e2]; exact iA _ _) (by rw [e5]; exact iM _ _)
  have i4 : In64 p4.1 := by rw [e4]; exact iA _ _
  have i6 : In64 p6.1 := by rw [e6]; exact iA _ _
  have hv4 : p4 = velN mu wd k x v gr := by rw [e4, e3, e2, e1]; rfl
  have hl : lookN mu wd nest k x v gr = bif nest then p6 else p4 := by
    cases nest
    · exact hv4.symm
    · rw [e6, e5, e2, e1, hv4]; rfl
  have f7 : ∀ u : Int × Bool, In64 u.1 → ∀ w, Calls Try.prog 42 #[num17 lr true, num17 u.1 u.2, .int .i64 k] w fun e w' => e = .returned (num17 (mulN k (lr, true) u).1 (mulN k (lr, true) u).2) ∧ Below w.heap.size w w' := fun u h w => hMul (lr, true) u w hlr h
  have f8 : ∀ u : Int × Bool, In64 u.1 → ∀ w, Calls Try.prog 43 #[num17 x true, num17 u.1 u.2] w fun e w' => e = .returned (num17 (subN (x, true) u).1 (subN (x, true) u).2) ∧ Below w.heap.size w w' := fun u h w => hSub (x, true) u w hx h
  have f78 : ∃ q : Int × Bool, ∃ r : Int × Bool, (∀ w, Calls Try.prog 42 #[num17 lr true, num17 (bif nest then p6 else p4).1 (bif nest then p6 else p4).2, .int .i64 k] w fun e w' => e = .returned (num17 q.1 q.2) ∧ Below w.heap.size w w') ∧ (∀ w, Calls Try.prog 43 #[num17 x true, num17 q.1 q.2] w fun e w' => e = .returned (num17 r.1 r.2) ∧ Below w.heap.size w w') ∧ r = newN lr mu wd nest k x v gr := by
    refine ⟨_, _, f7 _ (by cases nest; exact i4; exact i6), f8 _ (iM _ _), ?_⟩
    rw [← hl]; rfl
  obtain ⟨p7, p8, f7, f8, e8⟩ := f78
  rw [← hv4, ← e8]
  clear hMul hAdd hSub iM iA e1 e2 e3 e4 e5 e6 hv4 hl e8 i4 i6 hlr hmu hwd hx hv hg
  obtain ⟨W0, hW, hM, hA, hR1, hR2, hB⟩ := box22 wS 23 62 59 59 #[.int .i64 lr, .int .i64 mu, .int .i64 wd, .bool nest] #[.int .i64 x, .int .i64 v, .int .i64 gr] #[.int .i64 0, .bool false] #[.int .i64 0, .bool false]
  obtain ⟨g, hg⟩ : ∃ g, g = wS.heap.size := ⟨_, rfl⟩
  have hW' := Lib.hid (And.intro hW hg)
  rw [← hg] at hM hA hR1 hR2
  have gB := Lib.hid hg
  clear hW hg
  go_enter Try.func25, Try.ntmps25
  go_upto_region 1 with fail
  rw [← hW'.out.1, ← hW'.out.2]
  have a0 := hA.cell 0
  have a1 := hA.cell 1
  have a2 := hA.cell 2
  refine wp_region_noPanic ?_
  refine wp_region_held_drew (S := fun w' => w'.cell? ⟨g + 1, 0, none⟩ = some (.int .i64 x) ∧ w'.cell? ⟨g + 1, 1, none⟩ = some (.int .i64 v) ∧ w'.cell? ⟨g + 1, 2, none⟩ = some (.int .i64 gr)) (by kernel_rfl) ?_ (fun hHeld => ?_)
  · exact ⟨a0, a1, a2⟩
  refine wpAnyH_take (i := 0) (v := ?v0) rfl (by kernel_rfl) (by kernel_rfl) (by kernel_rfl) (fun _ _ _ h => h) (Or.inl ⟨by kernel_rfl, ?hy0⟩) (by assumption) ?rest0
  case hy0 => (intro w hSw; (try dsimp only at hSw); go_simp; try (with_reducible rfl))
  try simp only [Act.put]
  refine wpAnyH_take (i := 1) (v := ?v1) rfl (by kernel_rfl) (by kernel_rfl) (by kernel_rfl) (fun _ _ _ h => h) (Or.inl ⟨by kernel_rfl, ?hy1⟩) (by assumption) ?rest1
  case hy1 => (intro w hSw; (try dsimp only at hSw); go_simp; try (with_reducible rfl))
  try simp only [Act.put]
  refine wpAnyH_take (i := 3) (v := ?v3) rfl (by kernel_rfl) (by kernel_rfl) (by kernel_rfl) (fun _ _ _ h => h) (Or.inl ⟨by kernel_rfl, ?hy3⟩) (by assumption) ?rest3
  case hy3 => (intro w hSw; (try dsimp only at hSw); go_simp; try (with_reducible rfl))
  try simp only [Act.put]
  refine wpAnyH_take (i := 4) (v := ?v4) rfl (by kernel_rfl) (by kernel_rfl) (by kernel_rfl) (fun _ _ _ h => h) (Or.inl ⟨by kernel_rfl, ?hy4⟩) (by assumption) ?rest4
  case hy4 => (intro w hSw; (try dsimp only at hSw); go_simp; try (with_reducible rfl))
  try simp only [Act.put]
  refine wpAnyH_take (i := 6) (v := ?v6) rfl (by kernel_rfl) (by kernel_rfl) (by kernel_rfl) (fun _ _ _ h => h) (Or.inl ⟨by kernel_rfl, ?hy6⟩) (by assumption) ?rest6
  case hy6 => (intro w hSw; (try dsimp only at hSw); go_simp; try (with_reducible rfl))
  try simp only [Act.put]
  refine wpAnyH_take (i := 7) (v := ?v7) rfl (by kernel_rfl) (by kernel_rfl) (by kernel_rfl) (fun _ _ _ h => h) (Or.inl ⟨by kernel_rfl, ?hy7⟩) (by assumption) ?rest7
  case hy7 => (intro w hSw; (try dsimp only at hSw); go_simp; try (with_reducible rfl))
  try simp only [Act.put]
  have hBel0 : Below W0.heap.size W0 W0.drew := bdrew W0
  refine wpAnyH_until (fun l a w => ∃ (b2 b5 b8 b9 b10 b11 : Bool) (x16 x19 x22 x8 x9 x10 : Value) (n8 n9 n10 : Nat), l = #[true, true, b2, true, true, b5, true, true, b8, b9, b10, b11, false, false, false] ∧ a = ⟨((.agg #[.int .i64 lr, .int .i64 mu, .int .i64 wd, .bool nest]) :: (.int .i64 k) :: (.agg #[.int .i64 x, .int .i64 v, .int .i64 gr]) :: (.pointer (some ⟨g, 0, none⟩)) :: undef :: (.pointer (some ⟨g + 1, 0, none⟩)) :: (.pointer (some ⟨g + 1 + 1, 0, none⟩)) :: (.pointer (some ⟨g + 1 + 1 + 1, 0, none⟩)) :: x8 :: x9 :: x10 :: undef :: undef :: undef :: (.pointer (some ⟨g + 1, 0, none⟩)) :: (.int .i64 x) :: x16 :: (.pointer (some ⟨g + 1, 1, none⟩)) :: (.int .i64 v) :: x19 :: (.pointer (some ⟨g + 1, 2, none⟩)) :: (.int .i64 gr) :: x22 :: undef :: undef :: undef :: undef :: undef :: undef :: undef :: undef :: undef :: undef :: undef :: undef :: undef :: undef :: undef :: undef :: undef :: undef :: undef :: undef :: undef :: undef :: undef :: undef :: undef :: undef :: undef :: undef :: undef :: undef :: undef :: undef :: undef :: undef :: undef :: undef :: []).toArray, []⟩ ∧ (b2 = true → x16 = num17 x true) ∧ (b5 = true → x19 = num17 v true) ∧ (b8 = true → x22 = num17 gr true) ∧ Got 59 #[.int .i64 0, .bool false] W0.heap.size w b9 x8 n8 ∧ Got 59 #[.int .i64 0, .bool false] W0.heap.size w b10 x9 n9 ∧ Got 59 #[.int .i64 0, .bool false] W0.heap.size w b11 x10 n10 ∧ Twain b9 b10 n8 n9 ∧ Twain b9 b11 n8 n10 ∧ Twain b10 b11 n9 n10 ∧ (b8 = true → b5 = true) ∧ Below W0.heap.size W0 w) (fun l => l.getD 2 false && l.getD 5 false && l.getD 8 false && l.getD 9 false && l.getD 10 false && l.getD 11 false) (hord_of (by kernel_rfl)) ?hsz ?hT ?hgo ?hstep _ _ _ _ ⟨false, false, false, false, false, false, undef, undef, undef, undef, undef, undef, 0, 0, 0, by kernel_rfl, by kernel_rfl, (fun h => nomatch h), (fun h => nomatch h), (fun h => nomatch h), (fun h => nomatch h), (fun h => nomatch h), (fun h => nomatch h), (fun h => nomatch h), (fun h => nomatch h), (fun h => nomatch h), (fun h => nomatch h), hBel0⟩ (Nat.le_of_ble_eq_true (by kernel_rfl))
  case hsz =>
    rintro l a w ⟨b2, b5, b8, b9, b10, b11, x16, x19, x22, x8, x9, x10, n8, n9, n10, rfl, rfl, h16, h19, h22, h8, h9, h10, t8_9, t8_10, t9_10, i8_5, hBel⟩
    rfl
  case hT =>
    intro l a w _ h
    show (l.getD 2 false && l.getD 5 false && l.getD 8 false && l.getD 9 false && l.getD 10 false && l.getD 11 false) = true
    rw [h 2 (by simp), h 5 (by simp), h 8 (by simp), h 9 (by simp), h 10 (by simp), h 11 (by simp)]
    rfl
  case hstep =>
    rintro l a w i o ⟨b2, b5, b8, b9, b10, b11, x16, x19, x22, x8, x9, x10, n8, n9, n10, rfl, rfl, h16, h19, h22, h8, h9, h10, t8_9, t8_10, t9_10, i8_5, hBel⟩ hTl ho hl hd K hK
    rcases i with _ | _ | _ | _ | _ | _ | _ | _ | _ | _ | _ | _ | _ | _ | _ | i
    · exact nomatch (show true = false from hl)
    · exact nomatch (show true = false from hl)
    · obtain rfl : b2 = false := hl
      simp only [List.getElem?_toArray, List.getElem?_cons_succ, List.getElem?_cons_zero, Option.some.injEq] at ho
      subst ho
      go_simp
      refine (hOf _ _).mono ?_
      rintro _ w1 ⟨rfl, hB1⟩
      go_wp2_with fail
      have hBel := hBel.trans (hB1.mono hBel.size)
      exact hK.out _ _ (⟨(hA.below hBel hA.lt).cell 0, (hA.below hBel hA.lt).cell 1, (hA.below hBel hA.lt).cell 2⟩) ⟨true, b5, b8, b9, b10, b11, (num17 x true), x19, x22, x8, x9, x10, n8, n9, n10, by kernel_rfl, by kernel_rfl, (fun _ => rfl), h19, h22, h8.below hB1, h9.below hB1, h10.below hB1, t8_9, t8_10, t9_10, i8_5, hBel⟩
    · exact nomatch (show true = false from hl)
    · exact nomatch (show true = false from hl)
    · obtain rfl : b5 = false := hl
      simp only [List.getElem?_toArray, List.getElem?_cons_succ, List.getElem?_cons_zero, Option.some.injEq] at ho
      subst ho
      go_simp
      refine (hOf _ _).mono ?_
      rintro _ w1 ⟨rfl, hB1⟩
      go_wp2_with fail
      have hBel := hBel.trans (hB1.mono hBel.size)
      exact hK.out _ _ (⟨(hA.below hBel hA.lt).cell 0, (hA.below hBel hA.lt).cell 1, (hA.below hBel hA.lt).cell 2⟩) ⟨b2, true, b8, b9, b10, b11, x16, (num17 v true), x22, x8, x9, x10, n8, n9, n10, by kernel_rfl, by kernel_rfl, h16, (fun _ => rfl), h22, h8.below hB1, h9.below hB1, h10.below hB1, t8_9, t8_10, t9_10, (fun _ => rfl), hBel⟩
    · exact nomatch (show true = false from hl)
    · exact nomatch (show true = false from hl)
    · obtain rfl : b8 = false := hl
      simp only [List.getElem?_toArray, List.getElem?_cons_succ, List.getElem?_cons_zero, Option.some.injEq] at ho
      subst ho
      go_simp
      refine (hOf _ _).mono ?_
      rintro _ w1 ⟨rfl, hB1⟩
      go_wp2_with fail
      have hBel := hBel.trans (hB1.mono hBel.size)
      exact hK.out _ _ (⟨(hA.below hBel hA.lt).cell 0, (hA.below hBel hA.lt).cell 1, (hA.below hBel hA.lt).cell 2⟩) ⟨b2, b5, true, b9, b10, b11, x16, x19, (num17 gr true), x8, x9, x10, n8, n9, n10, by kernel_rfl, by kernel_rfl, h16, h19, (fun _ => rfl), h8.below hB1, h9.below hB1, h10.below hB1, t8_9, t8_10, t9_10, (fun _ => hd ⟨5, .chain⟩ (by simp) rfl), hBel⟩
    · obtain rfl : b9 = false := hl
      simp only [List.getElem?_toArray, List.getElem?_cons_succ, List.getElem?_cons_zero, Option.some.injEq] at ho
      subst ho
      go_simp
      have hSz := hBel.size
      have hBel := hBel.alloc hBel.size (.cells #[.int .i64 0, .bool false] 59)
      exact hK.out _ _ (⟨(hA.below hBel hA.lt).cell 0, (hA.below hBel hA.lt).cell 1, (hA.below hBel hA.lt).cell 2⟩) ⟨b2, b5, b8, true, b10, b11, x16, x19, x22, (.pointer (some ⟨w.heap.size, 0, none⟩)), x9, x10, w.heap.size, n9, n10, by kernel_rfl, by kernel_rfl, h16, h19, h22, Got.new hSz, h9.alloc _, h10.alloc _, h9.twain', h10.twain', t9_10, i8_5, hBel⟩
    · obtain rfl : b10 = false := hl
      simp only [List.getElem?_toArray, List.getElem?_cons_succ, List.getElem?_cons_zero, Option.some.injEq] at ho
      subst ho
      go_simp
      have hSz := hBel.size
      have hBel := hBel.alloc hBel.size (.cells #[.int .i64 0, .bool false] 59)
      exact hK.out _ _ (⟨(hA.below hBel hA.lt).cell 0, (hA.below hBel hA.lt).cell 1, (hA.below hBel hA.lt).cell 2⟩) ⟨b2, b5, b8, b9, true, b11, x16, x19, x22, x8, (.pointer (some ⟨w.heap.size, 0, none⟩)), x10, n8, w.heap.size, n10, by kernel_rfl, by kernel_rfl, h16, h19, h22, h8.alloc _, Got.new hSz, h10.alloc _, h8.twain, t8_10, h10.twain', i8_5, hBel⟩
    · obtain rfl : b11 = false := hl
      simp only [List.getElem?_toArray, List.getElem?_cons_succ, List.getElem?_cons_zero, Option.some.injEq] at ho
      subst ho
      go_simp
      have hSz := hBel.size
      have hBel := hBel.alloc hBel.size (.cells #[.int .i64 0, .bool false] 59)
      exact hK.out _ _ (⟨(hA.below hBel hA.lt).cell 0, (hA.below hBel hA.lt).cell 1, (hA.below hBel hA.lt).cell 2⟩) ⟨b2, b5, b8, b9, b10, true, x16, x19, x22, x8, x9, (.pointer (some ⟨w.heap.size, 0, none⟩)), n8, n9, w.heap.size, by kernel_rfl, by kernel_rfl, h16, h19, h22, h8.alloc _, h9.alloc _, Got.new hSz, t8_9, h8.twain, h9.twain, i8_5, hBel⟩
    · exfalso
      simp only [List.getElem?_toArray, List.getElem?_cons_succ, List.getElem?_cons_zero, Option.some.injEq] at ho
      subst ho
      obtain rfl : b8 = true := hd ⟨8, .chain⟩ (by simp) rfl
      obtain rfl : b5 = true := i8_5 rfl
      obtain rfl : b2 = true := hd ⟨2, .phase⟩ (by simp) rfl
      obtain rfl : b9 = true := hd ⟨9, .phase⟩ (by simp) rfl
      obtain rfl : b10 = true := hd ⟨10, .phase⟩ (by simp) rfl
      obtain rfl : b11 = true := hd ⟨11, .phase⟩ (by simp) rfl
      exact nomatch (show true = false from hTl)
    · exfalso
      simp only [List.getElem?_toArray, List.getElem?_cons_succ, List.getElem?_cons_zero, Option.some.injEq] at ho
      subst ho
      exact nomatch (show false = true from hd ⟨12, .phase⟩ (by simp) rfl)
    · exfalso
      simp only [List.getElem?_toArray, List.getElem?_cons_succ, List.getElem?_cons_zero, Option.some.injEq] at ho
      subst ho
      exact nomatch (show false = true from hd ⟨12, .phase⟩ (by simp) rfl)
    · exact nomatch (show none = some o from ho)
  case hgo =>
    rintro fuel l a w ⟨b2, b5, b8, b9, b10, b11, x16, x19, x22, x8, x9, x10, n8, n9, n10, rfl, rfl, h16, h19, h22, h8, h9, h10, t8_9, t8_10, t9_10, i8_5, hBel⟩ hTl hc
    change (b2 && b5 && b8 && b9 && b10 && b11) = true at hTl
    simp only [Bool.and_eq_true] at hTl
    obtain ⟨⟨⟨⟨⟨rfl, rfl⟩, rfl⟩, rfl⟩, rfl⟩, rfl⟩ := hTl
    obtain rfl := h16 rfl
    obtain rfl := h19 rfl
    obtain rfl := h22 rfl
    obtain ⟨rfl, m8, k8⟩ := h8 rfl
    obtain ⟨rfl, m9, k9⟩ := h9 rfl
    obtain ⟨rfl, m10, k10⟩ := h10 rfl
    have t8_9 := t8_9 rfl rfl
    have t8_10 := t8_10 rfl rfl
    have t9_10 := t9_10 rfl rfl
    obtain ⟨fuel, rfl⟩ : ∃ m, fuel = m + 3 := ⟨fuel - 3, by have : 3 ≤ fuel := hc; omega⟩
    clear hc
    have u0 := k8.cell 0
    have u1 := k8.cell 1
    have uf0 := k8.frozen 0
    have uf1 := k8.frozen 1
    refine wpAnyH_ready (rs := [12]) (by kernel_rfl) (by simp) ?_
    refine AllReadyH.cons rfl (fun K hK => ?_) AllReadyH.nil
    go_simp
    have hBel := (hBel.setCell (p := ⟨n8, 0, none⟩) m8 (.int .i64 x)).setCell (p := ⟨n8, 1, none⟩) m8 (.bool true)
    refine hK.out _ _ (⟨(hA.below hBel hA.lt).cell 0, (hA.below hBel hA.lt).cell 1, (hA.below hBel hA.lt).cell 2⟩) (fun hHeld => ?_)
    clear hK K
    have k8 := k8.st2 (u := .int .i64 x) (v := .bool true)
    have k9 := k9.far2n (n' := n8) (u := .int .i64 x) (v := .bool true) t8_9.symm
    have k10 := k10.far2n (n' := n8) (u := .int .i64 x) (v := .bool true) t8_10.symm
    clear u0 u1 uf0 uf1
    try simp only [Act.put]
    have u0 := k9.cell 0
    have u1 := k9.cell 1
    have uf0 := k9.frozen 0
    have uf1 := k9.frozen 1
    refine wpAnyH_ready (rs := [13]) (by kernel_rfl) (by simp) ?_
    refine AllReadyH.cons rfl (fun K hK => ?_) AllReadyH.nil
    go_simp
    have hBel := (hBel.setCell (p := ⟨n9, 0, none⟩) m9 (.int .i64 v)).setCell (p := ⟨n9, 1, none⟩) m9 (.bool true)
    refine hK.out _ _ (⟨(hA.below hBel hA.lt).cell 0, (hA.below hBel hA.lt).cell 1, (hA.below hBel hA.lt).cell 2⟩) (fun hHeld => ?_)
    clear hK K
    have k9 := k9.st2 (u := .int .i64 v) (v := .bool true)
    have k8 := k8.far2n (n' := n9) (u := .int .i64 v) (v := .bool true) t8_9
    have k10 := k10.far2n (n' := n9) (u := .int .i64 v) (v := .bool true) t9_10.symm
    clear u0 u1 uf0 uf1
    try simp only [Act.put]
    have u0 := k10.cell 0
    have u1 := k10.cell 1
    have uf0 := k10.frozen 0
    have uf1 := k10.frozen 1
    refine wpAnyH_ready (rs := [14]) (by kernel_rfl) (by simp) ?_
    refine AllReadyH.cons rfl (fun K hK => ?_) AllReadyH.nil
    go_simp
    have hBel := (hBel.setCell (p := ⟨n10, 0, none⟩) m10 (.int .i64 gr)).setCell (p := ⟨n10, 1, none⟩) m10 (.bool true)
    refine hK.out _ _ (⟨(hA.below hBel hA.lt).cell 0, (hA.below hBel hA.lt).cell 1, (hA.below hBel hA.lt).cell 2⟩) (fun hHeld => ?_)
    clear hK K
    have k10 := k10.st2 (u := .int .i64 gr) (v := .bool true)
    have k8 := k8.far2n (n' := n10) (u := .int .i64 gr) (v := .bool true) t8_10
    have k9 := k9.far2n (n' := n10) (u := .int .i64 gr) (v := .bool true) t9_10
    clear u0 u1 uf0 uf1
    try simp only [Act.put]
    refine wpAnyH_done (by kernel_rfl) ?_ _
    refine NoPanic.normal ?_
    have o8 : g + 1 + 1 + 1 < n8 := by have := hR2.lt; omega
    obtain ⟨w2, hw_⟩ : ∃ W, W = ((((((w.setCell ⟨n8, 0, none⟩ (.int .i64 x)).setCell ⟨n8, 1, none⟩ (.bool true)).setCell ⟨n9, 0, none⟩ (.int .i64 v)).setCell ⟨n9, 1, none⟩ (.bool true)).setCell ⟨n10, 0, none⟩ (.int .i64 gr)).setCell ⟨n10, 1, none⟩ (.bool true)) := ⟨_, rfl⟩
    rw [← hw_] at hBel k8 k9 k10 ⊢
    clear hw_ hHeld
    have hBe := hB.trans (hBel.mono hB.size)
    clear hB
    have hB := hBe
    clear hBe
    have h_ := hM.below hBel hM.lt
    clear hM
    have hM := h_
    clear h_
    have h_ := hR1.below hBel hR1.lt
    clear hR1
    have hR1 := h_
    clear h_
    have h_ := hR2.below hBel hR2.lt
    clear hR2
    have hR2 := h_
    clear h_
    clear hBel
    clear hA a0 a1 a2 hBel0 m8 m9 m10 t8_9 t8_10 t9_10
    go_upto_region 2 with fail
    have hBel : Below w2.heap.size w2 w2.drew := bdrew w2
    refine wp_region_noPanic ?_
    refine wp_region_held_drew (S := fun w' => w'.cell? ⟨g, 2, none⟩ = some (.int .i64 wd) ∧ w'.cell? ⟨n10, 0, none⟩ = some (.int .i64 gr) ∧ w'.cell? ⟨n10, 1, none⟩ = some (.bool true) ∧ w'.cell? ⟨n8, 0, none⟩ = some (.int .i64 x) ∧ w'.cell? ⟨n8, 1, none⟩ = some (.bool true)) (by kernel_rfl) ?_ (fun hHeld => ?_)
    · exact ⟨(hM.below hBel hM.lt).cell 2, (k10.below hBel k10.lt).cell 0, (k10.below hBel k10.lt).cell 1, (k8.below hBel k8.lt).cell 0, (k8.below hBel k8.lt).cell 1⟩
    refine wpAnyH_take (i := 0) (v := ?rv0) rfl (by kernel_rfl) (by kernel_rfl) (by kernel_rfl) (fun _ _ _ h => h) (Or.inl ⟨by kernel_rfl, ?rhy0⟩) (by assumption) ?rrest0
    case rhy0 => (intro w hSw; (try dsimp only at hSw); go_simp; try (with_reducible rfl))
    try simp only [Act.put]
    refine wpAnyH_take (i := 1) (v := ?rv1) rfl (by kernel_rfl) (by kernel_rfl) (by kernel_rfl) (fun _ _ _ h => h) (Or.inl ⟨by kernel_rfl, ?rhy1⟩) (by assumption) ?rrest1
    case rhy1 => (intro w hSw; (try dsimp only at hSw); go_simp; try (with_reducible rfl))
    try simp only [Act.put]
    refine wpAnyH_take (i := 2) (v := ?rv2) rfl (by kernel_rfl) (by kernel_rfl) (by kernel_rfl) (fun _ _ _ h => h) (Or.inl ⟨by kernel_rfl, ?rhy2⟩) (by assumption) ?rrest2
    case rhy2 => (intro w hSw; (try dsimp only at hSw); go_simp; try (with_reducible rfl))
    try simp only [Act.put]
    refine wpAnyH_take (i := 4) (v := ?rv4) rfl (by kernel_rfl) (by kernel_rfl) (by kernel_rfl) (fun _ _ _ h => h) (Or.inl ⟨by kernel_rfl, ?rhy4⟩) (by assumption) ?rrest4
    case rhy4 => (intro w hSw; (try dsimp only at hSw); go_simp; try (with_reducible rfl))
    try simp only [Act.put]
    refine wpAnyH_take (i := 5) (v := ?rv5) rfl (by kernel_rfl) (by kernel_rfl) (by kernel_rfl) (fun _ _ _ h => h) (Or.inl ⟨by kernel_rfl, ?rhy5⟩) (by assumption) ?rrest5
    case rhy5 => (intro w hSw; (try dsimp only at hSw); go_simp; try (with_reducible rfl))
    try simp only [Act.put]
    have hBel0 := hBel
    clear hBel
    refine wpAnyH_until (fun l a w => ∃ (b3 b6 b7 b8 : Bool) (x26 x29 x30 x11 : Value) (n11 : Nat), l = #[true, true, true, b3, true, true, b6, b7, b8, false] ∧ a = ⟨((.agg #[.int .i64 lr, .int .i64 mu, .int .i64 wd, .bool nest]) :: (.int .i64 k) :: (.agg #[.int .i64 x, .int .i64 v, .int .i64 gr]) :: (.pointer (some ⟨g, 0, none⟩)) :: undef :: (.pointer (some ⟨g + 1, 0, none⟩)) :: (.pointer (some ⟨g + 1 + 1, 0, none⟩)) :: (.pointer (some ⟨g + 1 + 1 + 1, 0, none⟩)) :: (.pointer (some ⟨n8, 0, none⟩)) :: (.pointer (some ⟨n9, 0, none⟩)) :: (.pointer (some ⟨n10, 0, none⟩)) :: x11 :: undef :: undef :: (.pointer (some ⟨g + 1, 0, none⟩)) :: (.int .i64 x) :: (num17 x true) :: (.pointer (some ⟨g + 1, 1, none⟩)) :: (.int .i64 v) :: (num17 v true) :: (.pointer (some ⟨g + 1, 2, none⟩)) :: (.int .i64 gr) :: (num17 gr true) :: (num17 gr true) :: (.pointer (some ⟨g, 2, none⟩)) :: (.int .i64 wd) :: x26 :: (num17 x true) :: (.int .i64 k) :: x29 :: x30 :: undef :: undef :: undef :: undef :: undef :: undef :: undef :: undef :: undef :: undef :: undef :: undef :: undef :: undef :: undef :: undef :: undef :: undef :: undef :: undef :: undef :: undef :: undef :: undef :: undef :: undef :: undef :: undef :: []).toArray, []⟩ ∧ (b3 = true → x26 = num17 wd true) ∧ (b6 = true → x29 = num17 p1.1 p1.2) ∧ (b7 = true → x30 = num17 p2.1 p2.2) ∧ Got 59 #[.int .i64 0, .bool false] w2.heap.size w b8 x11 n11 ∧ Below w2.heap.size w2 w) (fun l => l.getD 3 false && l.getD 6 false && l.getD 7 false && l.getD 8 false) (hord_of (by kernel_rfl)) ?rhsz ?rhT ?rhgo ?rhstep _ _ _ _ ⟨false, false, false, false, undef, undef, undef, undef, 0, by kernel_rfl, by kernel_rfl, (fun h => nomatch h), (fun h => nomatch h), (fun h => nomatch h), (fun h => nomatch h), hBel0⟩ (Nat.le_of_ble_eq_true (by kernel_rfl))
    case rhsz =>
      rintro l a w ⟨b3, b6, b7, b8, x26, x29, x30, x11, n11, rfl, rfl, h26, h29, h30, h11, hBel⟩
      rfl
    case rhT =>
      intro l a w _ h
      show (l.getD 3 false && l.getD 6 false && l.getD 7 false && l.getD 8 false) = true
      rw [h 3 (by simp), h 6 (by simp), h 7 (by simp), h 8 (by simp)]
      rfl
    case rhstep =>
      rintro l a w i o ⟨b3, b6, b7, b8, x26, x29, x30, x11, n11, rfl, rfl, h26, h29, h30, h11, hBel⟩ hTl ho hl hd K hK
      rcases i with _ | _ | _ | _ | _ | _ | _ | _ | _ | _ | i
      · exact nomatch (show true = false from hl)
      · exact nomatch (show true = false from hl)
      · exact nomatch (show true = false from hl)
      · obtain rfl : b3 = false := hl
        simp only [List.getElem?_toArray, List.getElem?_cons_succ, List.getElem?_cons_zero, Option.some.injEq] at ho
        subst ho
        go_simp
        refine (hOf _ _).mono ?_
        rintro _ w1 ⟨rfl, hB1⟩
        go_wp2_with fail
        have hBel := hBel.trans (hB1.mono hBel.size)
        exact hK.out _ _ (⟨(hM.below hBel hM.lt).cell 2, (k10.below hBel k10.lt).cell 0, (k10.below hBel k10.lt).cell 1, (k8.below hBel k8.lt).cell 0, (k8.below hBel k8.lt).cell 1⟩) ⟨true, b6, b7, b8, (num17 wd true), x29, x30, x11, n11, by kernel_rfl, by kernel_rfl, (fun _ => rfl), h29, h30, h11.below hB1, hBel⟩
      · exact nomatch (show true = false from hl)
      · exact nomatch (show true = false from hl)
      · obtain rfl : b6 = false := hl
        simp only [List.getElem?_toArray, List.getElem?_cons_succ, List.getElem?_cons_zero, Option.some.injEq] at ho
        subst ho
        obtain rfl : b3 = true := hd ⟨3, .data⟩ (by simp) rfl
        obtain rfl := h26 rfl
        go_simp
        refine (f1 _).mono ?_
        rintro _ w1 ⟨rfl, hB1⟩
        go_wp2_with fail
        have hBel := hBel.trans (hB1.mono hBel.size)
        exact hK.out _ _ (⟨(hM.below hBel hM.lt).cell 2, (k10.below hBel k10.lt).cell 0, (k10.below hBel k10.lt).cell 1, (k8.below hBel k8.lt).cell 0, (k8.below hBel k8.lt).cell 1⟩) ⟨true, true, b7, b8, (num17 wd true), (num17 p1.1 p1.2), x30, x11, n11, by kernel_rfl, by kernel_rfl, (fun _ => rfl), (fun _ => rfl), h30, h11.below hB1, hBel⟩
      · obtain rfl : b7 = false := hl
        simp only [List.getElem?_toArray, List.getElem?_cons_succ, List.getElem?_cons_zero, Option.some.injEq] at ho
        subst ho
        obtain rfl : b6 = true := hd ⟨6, .data⟩ (by simp) rfl
        obtain rfl := h29 rfl
        go_simp
        refine (f2 _).mono ?_
        rintro _ w1 ⟨rfl, hB1⟩
        go_wp2_with fail
        have hBel := hBel.trans (hB1.mono hBel.size)
        exact hK.out _ _ (⟨(hM.below hBel hM.lt).cell 2, (k10.below hBel k10.lt).cell 0, (k10.below hBel k10.lt).cell 1, (k8.below hBel k8.lt).cell 0, (k8.below hBel k8.lt).cell 1⟩) ⟨b3, true, true, b8, x26, (num17 p1.1 p1.2), (num17 p2.1 p2.2), x11, n11, by kernel_rfl, by kernel_rfl, h26, (fun _ => rfl), (fun _ => rfl), h11.below hB1, hBel⟩
      · obtain rfl : b8 = false := hl
        simp only [List.getElem?_toArray, List.getElem?_cons_succ, List.getElem?_cons_zero, Option.some.injEq] at ho
        subst ho
        go_simp
        have hSz := hBel.size
        have hBel := hBel.alloc hBel.size (.cells #[.int .i64 0, .bool false] 59)
        exact hK.out _ _ (⟨(hM.below hBel hM.lt).cell 2, (k10.below hBel k10.lt).cell 0, (k10.below hBel k10.lt).cell 1, (k8.below hBel k8.lt).cell 0, (k8.below hBel k8.lt).cell 1⟩) ⟨b3, b6, b7, true, x26, x29, x30, (.pointer (some ⟨w.heap.size, 0, none⟩)), w.heap.size, by kernel_rfl, by kernel_rfl, h26, h29, h30, Got.new hSz, hBel⟩
      · exfalso
        simp only [List.getElem?_toArray, List.getElem?_cons_succ, List.getElem?_cons_zero, Option.some.injEq] at ho
        subst ho
        obtain rfl : b7 = true := hd ⟨7, .phase⟩ (by simp) rfl
        obtain rfl : b6 = true := hd ⟨6, .phase⟩ (by simp) rfl
        obtain rfl : b3 = true := hd ⟨3, .phase⟩ (by simp) rfl
        obtain rfl : b8 = true := hd ⟨8, .phase⟩ (by simp) rfl
        exact nomatch (show true = false from hTl)
      · exact nomatch (show none = some o from ho)
    case rhgo =>
      rintro fuel l a w ⟨b3, b6, b7, b8, x26, x29, x30, x11, n11, rfl, rfl, h26, h29, h30, h11, hBel⟩ hTl hc
      change (b3 && b6 && b7 && b8) = true at hTl
      simp only [Bool.and_eq_true] at hTl
      obtain ⟨⟨⟨rfl, rfl⟩, rfl⟩, rfl⟩ := hTl
      obtain rfl := h26 rfl
      obtain rfl := h29 rfl
      obtain rfl := h30 rfl
      obtain ⟨rfl, m11, k11⟩ := h11 rfl
      obtain ⟨fuel, rfl⟩ : ∃ m, fuel = m + 1 := ⟨fuel - 1, by have : 1 ≤ fuel := hc; omega⟩
      clear hc
      have u0 := k11.cell 0
      have u1 := k11.cell 1
      have uf0 := k11.frozen 0
      have uf1 := k11.frozen 1
      refine wpAnyH_ready (rs := [9]) (by kernel_rfl) (by simp) ?_
      refine AllReadyH.cons rfl (fun K hK => ?_) AllReadyH.nil
      go_simp
      have hBel := (hBel.setCell (p := ⟨n11, 0, none⟩) m11 (.int .i64 p2.1)).setCell (p := ⟨n11, 1, none⟩) m11 (.bool p2.2)
      refine hK.out _ _ (⟨(hM.below hBel hM.lt).cell 2, (k10.below hBel k10.lt).cell 0, (k10.below hBel k10.lt).cell 1, (k8.below hBel k8.lt).cell 0, (k8.below hBel k8.lt).cell 1⟩) (fun hHeld => ?_)
      clear hK K
      have k11 := k11.st2 (u := .int .i64 p2.1) (v := .bool p2.2)

      clear u0 u1 uf0 uf1
      try simp only [Act.put]
      refine wpAnyH_done (by kernel_rfl) ?_ _
      refine NoPanic.normal ?_
      obtain ⟨w3, hw_⟩ : ∃ W, W = ((w.setCell ⟨n11, 0, none⟩ (.int .i64 p2.1)).setCell ⟨n11, 1, none⟩ (.bool p2.2)) := ⟨_, rfl⟩
      rw [← hw_] at hBel k11 ⊢
      clear hw_ hHeld
      have hBe := hB.trans (hBel.mono hB.size)
      clear hB
      have hB := hBe
      clear hBe
      have h_ := hM.below hBel hM.lt
      clear hM
      have hM := h_
      clear h_
      have h_ := hR1.below hBel hR1.lt
      clear hR1
      have hR1 := h_
      clear h_
      have h_ := hR2.below hBel hR2.lt
      clear hR2
      have hR2 := h_
      clear h_
      have h_ := k8.below hBel k8.lt
      clear k8
      have k8 := h_
      clear h_
      have h_ := k9.below hBel k9.lt
      clear k9
      have k9 := h_
      clear h_
      have h_ := k10.below hBel k10.lt
      clear k10
      have k10 := h_
      clear h_
      clear hBel
      clear hBel0 m11
      go_upto_region 3 with fail
      have hBel : Below w3.heap.size w3 w3.drew := bdrew w3
      refine wp_region_noPanic ?_
      refine wp_region_held_drew (S := fun w' => w'.cell? ⟨g, 1, none⟩ = some (.int .i64 mu) ∧ w'.cell? ⟨n9, 0, none⟩ = some (.int .i64 v) ∧ w'.cell? ⟨n9, 1, none⟩ = some (.bool true) ∧ w'.cell? ⟨n11, 0, none⟩ = some (.int .i64 p2.1) ∧ w'.cell? ⟨n11, 1, none⟩ = some (.bool p2.2)) (by kernel_rfl) ?_ (fun hHeld => ?_)
      · exact ⟨(hM.below hBel hM.lt).cell 1, (k9.below hBel k9.lt).cell 0, (k9.below hBel k9.lt).cell 1, (k11.below hBel k11.lt).cell 0, (k11.below hBel k11.lt).cell 1⟩
      refine wpAnyH_take (i := 0) (v := ?sv0) rfl (by kernel_rfl) (by kernel_rfl) (by kernel_rfl) (fun _ _ _ h => h) (Or.inl ⟨by kernel_rfl, ?shy0⟩) (by assumption) ?srest0
      case shy0 => (intro w hSw; (try dsimp only at hSw); go_simp; try (with_reducible rfl))
      try simp only [Act.put]
      refine wpAnyH_take (i := 1) (v := ?sv1) rfl (by kernel_rfl) (by kernel_rfl) (by kernel_rfl) (fun _ _ _ h => h) (Or.inl ⟨by kernel_rfl, ?shy1⟩) (by assumption) ?srest1
      case shy1 => (intro w hSw; (try dsimp only at hSw); go_simp; try (with_reducible rfl))
      try simp only [Act.put]
      refine wpAnyH_take (i := 3) (v := ?sv3) rfl (by kernel_rfl) (by kernel_rfl) (by kernel_rfl) (fun _ _ _ h => h) (Or.inl ⟨by kernel_rfl, ?shy3⟩) (by assumption) ?srest3
      case shy3 => (intro w hSw; (try dsimp only at hSw); go_simp; try (with_reducible rfl))
      try simp only [Act.put]
      refine wpAnyH_take (i := 4) (v := ?sv4) rfl (by kernel_rfl) (by kernel_rfl) (by kernel_rfl) (fun _ _ _ h => h) (Or.inl ⟨by kernel_rfl, ?shy4⟩) (by assumption) ?srest4
      case shy4 => (intro w hSw; (try dsimp only at hSw); go_simp; try (with_reducible rfl))
      try simp only [Act.put]
      refine wpAnyH_take (i := 6) (v := ?sv6) rfl (by kernel_rfl) (by kernel_rfl) (by kernel_rfl) (fun _ _ _ h => h) (Or.inl ⟨by kernel_rfl, ?shy6⟩) (by assumption) ?srest6
      case shy6 => (intro w hSw; (try dsimp only at hSw); go_simp; try (with_reducible rfl))
      try simp only [Act.put]
      have hBel0 := hBel
      clear hBel
      refine wpAnyH_until (fun l a w => ∃ (b2 b5 b7 b8 : Bool) (x33 x36 x38 x12 : Value) (n12 : Nat), l = #[true, true, b2, true, true, b5, true, b7, b8, false] ∧ a = ⟨((.agg #[.int .i64 lr, .int .i64 mu, .int .i64 wd, .bool nest]) :: (.int .i64 k) :: (.agg #[.int .i64 x, .int .i64 v, .int .i64 gr]) :: (.pointer (some ⟨g, 0, none⟩)) :: undef :: (.pointer (some ⟨g + 1, 0, none⟩)) :: (.pointer (some ⟨g + 1 + 1, 0, none⟩)) :: (.pointer (some ⟨g + 1 + 1 + 1, 0, none⟩)) :: (.pointer (some ⟨n8, 0, none⟩)) :: (.pointer (some ⟨n9, 0, none⟩)) :: (.pointer (some ⟨n10, 0, none⟩)) :: (.pointer (some ⟨n11, 0, none⟩)) :: x12 :: undef :: (.pointer (some ⟨g + 1, 0, none⟩)) :: (.int .i64 x) :: (num17 x true) :: (.pointer (some ⟨g + 1, 1, none⟩)) :: (.int .i64 v) :: (num17 v true) :: (.pointer (some ⟨g + 1, 2, none⟩)) :: (.int .i64 gr) :: (num17 gr true) :: (num17 gr true) :: (.pointer (some ⟨g, 2, none⟩)) :: (.int .i64 wd) :: (num17 wd true) :: (num17 x true) :: (.int .i64 k) :: (num17 p1.1 p1.2) :: (num17 p2.1 p2.2) :: (.pointer (some ⟨g, 1, none⟩)) :: (.int .i64 mu) :: x33 :: (num17 v true) :: (.int .i64 k) :: x36 :: (num17 p2.1 p2.2) :: x38 :: undef :: undef :: undef :: undef :: undef :: undef :: undef :: undef :: undef :: undef :: undef :: undef :: undef :: undef :: undef :: undef :: undef :: undef :: undef :: undef :: []).toArray, []⟩ ∧ (b2 = true → x33 = num17 mu true) ∧ (b5 = true → x36 = num17 p3.1 p3.2) ∧ (b7 = true → x38 = num17 p4.1 p4.2) ∧ Got 59 #[.int .i64 0, .bool false] w3.heap.size w b8 x12 n12 ∧ Below w3.heap.size w3 w) (fun l => l.getD 2 false && l.getD 5 false && l.getD 7 false && l.getD 8 false) (hord_of (by kernel_rfl)) ?shsz ?shT ?shgo ?shstep _ _ _ _ ⟨false, false, false, false, undef, undef, undef, undef, 0, by kernel_rfl, by kernel_rfl, (fun h => nomatch h), (fun h => nomatch h), (fun h => nomatch h), (fun h => nomatch h), hBel0⟩ (Nat.le_of_ble_eq_true (by kernel_rfl))
      case shsz =>
        rintro l a w ⟨b2, b5, b7, b8, x33, x36, x38, x12, n12, rfl, rfl, h33, h36, h38, h12, hBel⟩
        rfl
      case shT =>
        intro l a w _ h
        show (l.getD 2 false && l.getD 5 false && l.getD 7 false && l.getD 8 false) = true
        rw [h 2 (by simp), h 5 (by simp), h 7 (by simp), h 8 (by simp)]
        rfl
      case shstep =>
        rintro l a w i o ⟨b2, b5, b7, b8, x33, x36, x38, x12, n12, rfl, rfl, h33, h36, h38, h12, hBel⟩ hTl ho hl hd K hK
        rcases i with _ | _ | _ | _ | _ | _ | _ | _ | _ | _ | i
        · exact nomatch (show true = false from hl)
        · exact nomatch (show true = false from hl)
        · obtain rfl : b2 = false := hl
          simp only [List.getElem?_toArray, List.getElem?_cons_succ, List.getElem?_cons_zero, Option.some.injEq] at ho
          subst ho
          go_simp
          refine (hOf _ _).mono ?_
          rintro _ w1 ⟨rfl, hB1⟩
          go_wp2_with fail
          have hBel := hBel.trans (hB1.mono hBel.size)
          exact hK.out _ _ (⟨(hM.below hBel hM.lt).cell 1, (k9.below hBel k9.lt).cell 0, (k9.below hBel k9.lt).cell 1, (k11.below hBel k11.lt).cell 0, (k11.below hBel k11.lt).cell 1⟩) ⟨true, b5, b7, b8, (num17 mu true), x36, x38, x12, n12, by kernel_rfl, by kernel_rfl, (fun _ => rfl), h36, h38, h12.below hB1, hBel⟩
        · exact nomatch (show true = false from hl)
        · exact nomatch (show true = false from hl)
        · obtain rfl : b5 = false := hl
          simp only [List.getElem?_toArray, List.getElem?_cons_succ, List.getElem?_cons_zero, Option.some.injEq] at ho
          subst ho
          obtain rfl : b2 = true := hd ⟨2, .data⟩ (by simp) rfl
          obtain rfl := h33 rfl
          go_simp
          refine (f3 _).mono ?_
          rintro _ w1 ⟨rfl, hB1⟩
          go_wp2_with fail
          have hBel := hBel.trans (hB1.mono hBel.size)
          exact hK.out _ _ (⟨(hM.below hBel hM.lt).cell 1, (k9.below hBel k9.lt).cell 0, (k9.below hBel k9.lt).cell 1, (k11.below hBel k11.lt).cell 0, (k11.below hBel k11.lt).cell 1⟩) ⟨true, true, b7, b8, (num17 mu true), (num17 p3.1 p3.2), x38, x12, n12, by kernel_rfl, by kernel_rfl, (fun _ => rfl), (fun _ => rfl), h38, h12.below hB1, hBel⟩
        · exact nomatch (show true = false from hl)
        · obtain rfl : b7 = false := hl
          simp only [List.getElem?_toArray, List.getElem?_cons_succ, List.getElem?_cons_zero, Option.some.injEq] at ho
          subst ho
          obtain rfl : b5 = true := hd ⟨5, .data⟩ (by simp) rfl
          obtain rfl := h36 rfl
          go_simp
          refine (f4 _).mono ?_
          rintro _ w1 ⟨rfl, hB1⟩
          go_wp2_with fail
          have hBel := hBel.trans (hB1.mono hBel.size)
          exact hK.out _ _ (⟨(hM.below hBel hM.lt).cell 1, (k9.below hBel k9.lt).cell 0, (k9.below hBel k9.lt).cell 1, (k11.below hBel k11.lt).cell 0, (k11.below hBel k11.lt).cell 1⟩) ⟨b2, true, true, b8, x33, (num17 p3.1 p3.2), (num17 p4.1 p4.2), x12, n12, by kernel_rfl, by kernel_rfl, h33, (fun _ => rfl), (fun _ => rfl), h12.below hB1, hBel⟩
        · obtain rfl : b8 = false := hl
          simp only [List.getElem?_toArray, List.getElem?_cons_succ, List.getElem?_cons_zero, Option.some.injEq] at ho
          subst ho
          go_simp
          have hSz := hBel.size
          have hBel := hBel.alloc hBel.size (.cells #[.int .i64 0, .bool false] 59)
          exact hK.out _ _ (⟨(hM.below hBel hM.lt).cell 1, (k9.below hBel k9.lt).cell 0, (k9.below hBel k9.lt).cell 1, (k11.below hBel k11.lt).cell 0, (k11.below hBel k11.lt).cell 1⟩) ⟨b2, b5, b7, true, x33, x36, x38, (.pointer (some ⟨w.heap.size, 0, none⟩)), w.heap.size, by kernel_rfl, by kernel_rfl, h33, h36, h38, Got.new hSz, hBel⟩
        · exfalso
          simp only [List.getElem?_toArray, List.getElem?_cons_succ, List.getElem?_cons_zero, Option.some.injEq] at ho
          subst ho
          obtain rfl : b7 = true := hd ⟨7, .phase⟩ (by simp) rfl
          obtain rfl : b5 = true := hd ⟨5, .phase⟩ (by simp) rfl
          obtain rfl : b2 = true := hd ⟨2, .phase⟩ (by simp) rfl
          obtain rfl : b8 = true := hd ⟨8, .phase⟩ (by simp) rfl
          exact nomatch (show true = false from hTl)
        · exact nomatch (show none = some o from ho)
      case shgo =>
        rintro fuel l a w ⟨b2, b5, b7, b8, x33, x36, x38, x12, n12, rfl, rfl, h33, h36, h38, h12, hBel⟩ hTl hc
        change (b2 && b5 && b7 && b8) = true at hTl
        simp only [Bool.and_eq_true] at hTl
        obtain ⟨⟨⟨rfl, rfl⟩, rfl⟩, rfl⟩ := hTl
        obtain rfl := h33 rfl
        obtain rfl := h36 rfl
        obtain rfl := h38 rfl
        obtain ⟨rfl, m12, k12⟩ := h12 rfl
        obtain ⟨fuel, rfl⟩ : ∃ m, fuel = m + 1 := ⟨fuel - 1, by have : 1 ≤ fuel := hc; omega⟩
        clear hc
        have u0 := k12.cell 0
        have u1 := k12.cell 1
        have uf0 := k12.frozen 0
        have uf1 := k12.frozen 1
        refine wpAnyH_ready (rs := [9]) (by kernel_rfl) (by simp) ?_
        refine AllReadyH.cons rfl (fun K hK => ?_) AllReadyH.nil
        go_simp
        have hBel := (hBel.setCell (p := ⟨n12, 0, none⟩) m12 (.int .i64 p4.1)).setCell (p := ⟨n12, 1, none⟩) m12 (.bool p4.2)
        refine hK.out _ _ (⟨(hM.below hBel hM.lt).cell 1, (k9.below hBel k9.lt).cell 0, (k9.below hBel k9.lt).cell 1, (k11.below hBel k11.lt).cell 0, (k11.below hBel k11.lt).cell 1⟩) (fun hHeld => ?_)
        clear hK K
        have k12 := k12.st2 (u := .int .i64 p4.1) (v := .bool p4.2)

        clear u0 u1 uf0 uf1
        try simp only [Act.put]
        refine wpAnyH_done (by kernel_rfl) ?_ _
        refine NoPanic.normal ?_
        have o12 : g + 1 + 1 + 1 < n12 := by have := hR2.lt; omega
        obtain ⟨w4, hw_⟩ : ∃ W, W = ((w.setCell ⟨n12, 0, none⟩ (.int .i64 p4.1)).setCell ⟨n12, 1, none⟩ (.bool p4.2)) := ⟨_, rfl⟩
        rw [← hw_] at hBel k12 ⊢
        clear hw_ hHeld
        have hBe := hB.trans (hBel.mono hB.size)
        clear hB
        have hB := hBe
        clear hBe
        have h_ := hM.below hBel hM.lt
        clear hM
        have hM := h_
        clear h_
        have h_ := hR1.below hBel hR1.lt
        clear hR1
        have hR1 := h_
        clear h_
        have h_ := hR2.below hBel hR2.lt
        clear hR2
        have hR2 := h_
        clear h_
        have h_ := k8.below hBel k8.lt
        clear k8
        have k8 := h_
        clear h_
        have h_ := k11.below hBel k11.lt
        clear k11
        have k11 := h_
        clear h_
        clear hBel
        clear hBel0 m12 k9 k10
        have c0 := k12.cell 0
        have c1 := k12.cell 1
        go_upto_region 5 with fail
        obtain ⟨w5, hw_⟩ : ∃ W, W = w4.alloc (.cells #[.int .i64 p4.1, .bool p4.2] 59) := ⟨_, rfl⟩
        have k13 : Blk w5 w4.heap.size 59 #[.int .i64 p4.1, .bool p4.2] := by rw [hw_]; exact Blk.new w4 59 #[.int .i64 p4.1, .bool p4.2]
        have l8 := k8.lt
        have l11 := k11.lt
        have l12 := k12.lt
        have lM := hM.lt
        have lR1 := hR1.lt
        have lR2 := hR2.lt
        have lB := hB.size
        have h_ := Blk.alloc k8 (.cells #[.int .i64 p4.1, .bool p4.2] 59)
        rw [← hw_] at h_
        clear k8
        have k8 := h_
        clear h_
        have h_ := Blk.alloc k11 (.cells #[.int .i64 p4.1, .bool p4.2] 59)
        rw [← hw_] at h_
        clear k11
        have k11 := h_
        clear h_
        have h_ := Blk.alloc k12 (.cells #[.int .i64 p4.1, .bool p4.2] 59)
        rw [← hw_] at h_
        clear k12
        have k12 := h_
        clear h_
        have h_ := Blk.alloc hM (.cells #[.int .i64 p4.1, .bool p4.2] 59)
        rw [← hw_] at h_
        clear hM
        have hM := h_
        clear h_
        have h_ := Blk.alloc hR1 (.cells #[.int .i64 p4.1, .bool p4.2] 59)
        rw [← hw_] at h_
        clear hR1
        have hR1 := h_
        clear h_
        have h_ := Blk.alloc hR2 (.cells #[.int .i64 p4.1, .bool p4.2] 59)
        rw [← hw_] at h_
        clear hR2
        have hR2 := h_
        clear h_
        have hBe : Below wS.heap.size wS w5 := by rw [hw_]; exact hB.alloc hB.size (.cells #[.int .i64 p4.1, .bool p4.2] 59)
        clear hB
        have hB := hBe
        rw [← hw_]
        clear hw_ hBe c0 c1
        obtain ⟨n13, hn_⟩ : ∃ n, n = w4.heap.size := ⟨_, rfl⟩
        rw [← hn_] at k13 l8 l11 l12 lM lR1 lR2 lB ⊢
        clear hn_
        have hgw : wS.heap.size ≤ g := by have := gB.out; omega
        have d3 := hM.cell 3
        rcases nest with _ | _
        · change ∀ w, Calls _ _ #[num17 lr true, num17 p4.1 p4.2, _] w _ at f7
          go_upto_region 7 with fail
          have hBel : Below w5.heap.size w5 w5.drew := bdrew w5
          refine wp_region_noPanic ?_
          refine wp_region_held_drew (S := fun w' => w'.cell? ⟨n12, 0, none⟩ = some (.int .i64 p4.1) ∧ w'.cell? ⟨n12, 1, none⟩ = some (.bool p4.2) ∧ w'.cell? ⟨n8, 0, none⟩ = some (.int .i64 x) ∧ w'.cell? ⟨n8, 1, none⟩ = some (.bool true) ∧ w'.cell? ⟨g, 0, none⟩ = some (.int .i64 lr) ∧ w'.cell? ⟨n13, 0, none⟩ = some (.int .i64 p4.1) ∧ w'.cell? ⟨n13, 1, none⟩ = some (.bool p4.2)) (by kernel_rfl) ?_ (fun hHeld => ?_)
          · exact ⟨((k12.below hBel k12.lt)).cell 0, ((k12.below hBel k12.lt)).cell 1, ((k8.below hBel k8.lt)).cell 0, ((k8.below hBel k8.lt)).cell 1, ((hM.below hBel hM.lt)).cell 0, ((k13.below hBel k13.lt)).cell 0, ((k13.below hBel k13.lt)).cell 1⟩
          refine wpAnyH_take (i := 0) (v := ?fv0) rfl (by kernel_rfl) (by kernel_rfl) (by kernel_rfl) (fun _ _ _ h => h) (Or.inl ⟨by kernel_rfl, ?fhy0⟩) (by assumption) ?frest0
          case fhy0 => (intro w hSw; (try dsimp only at hSw); go_simp; try (with_reducible rfl))
          try simp only [Act.put]
          refine wpAnyH_take (i := 1) (v := ?fv1) rfl (by kernel_rfl) (by kernel_rfl) (by kernel_rfl) (fun _ _ _ h => h) (Or.inl ⟨by kernel_rfl, ?fhy1⟩) (by assumption) ?frest1
          case fhy1 => (intro w hSw; (try dsimp only at hSw); go_simp; try (with_reducible rfl))
          try simp only [Act.put]
          refine wpAnyH_take (i := 2) (v := ?fv2) rfl (by kernel_rfl) (by kernel_rfl) (by kernel_rfl) (fun _ _ _ h => h) (Or.inl ⟨by kernel_rfl, ?fhy2⟩) (by assumption) ?frest2
          case fhy2 => (intro w hSw; (try dsimp only at hSw); go_simp; try (with_reducible rfl))
          try simp only [Act.put]
          refine wpAnyH_take (i := 3) (v := ?fv3) rfl (by kernel_rfl) (by kernel_rfl) (by kernel_rfl) (fun _ _ _ h => h) (Or.inl ⟨by kernel_rfl, ?fhy3⟩) (by assumption) ?frest3
          case fhy3 => (intro w hSw; (try dsimp only at hSw); go_simp; try (with_reducible rfl))
          try simp only [Act.put]
          refine wpAnyH_take (i := 5) (v := ?fv5) rfl (by kernel_rfl) (by kernel_rfl) (by kernel_rfl) (fun _ _ _ h => h) (Or.inl ⟨by kernel_rfl, ?fhy5⟩) (by assumption) ?frest5
          case fhy5 => (intro w hSw; (try dsimp only at hSw); go_simp; try (with_reducible rfl))
          try simp only [Act.put]
          refine wpAnyH_take (i := 6) (v := ?fv6) rfl (by kernel_rfl) (by kernel_rfl) (by kernel_rfl) (fun _ _ _ h => h) (Or.inl ⟨by kernel_rfl, ?fhy6⟩) (by assumption) ?frest6
          case fhy6 => (intro w hSw; (try dsimp only at hSw); go_simp; try (with_reducible rfl))
          try simp only [Act.put]
          change wpAnyH _ _ _ _ _ _ _ ⟨((.agg #[.int .i64 lr, .int .i64 mu, .int .i64 wd, .bool false]) :: (.int .i64 k) :: (.agg #[.int .i64 x, .int .i64 v, .int .i64 gr]) :: (.pointer (some ⟨g, 0, none⟩)) :: undef :: (.pointer (some ⟨g + 1, 0, none⟩)) :: (.pointer (some ⟨g + 1 + 1, 0, none⟩)) :: (.pointer (some ⟨g + 1 + 1 + 1, 0, none⟩)) :: (.pointer (some ⟨n8, 0, none⟩)) :: (.pointer (some ⟨n9, 0, none⟩)) :: (.pointer (some ⟨n10, 0, none⟩)) :: (.pointer (some ⟨n11, 0, none⟩)) :: (.pointer (some ⟨n12, 0, none⟩)) :: (.pointer (some ⟨n13, 0, none⟩)) :: (.pointer (some ⟨g + 1, 0, none⟩)) :: (.int .i64 x) :: (num17 x true) :: (.pointer (some ⟨g + 1, 1, none⟩)) :: (.int .i64 v) :: (num17 v true) :: (.pointer (some ⟨g + 1, 2, none⟩)) :: (.int .i64 gr) :: (num17 gr true) :: (num17 gr true) :: (.pointer (some ⟨g, 2, none⟩)) :: (.int .i64 wd) :: (num17 wd true) :: (num17 x true) :: (.int .i64 k) :: (num17 p1.1 p1.2) :: (num17 p2.1 p2.2) :: (.pointer (some ⟨g, 1, none⟩)) :: (.int .i64 mu) :: (num17 mu true) :: (num17 v true) :: (.int .i64 k) :: (num17 p3.1 p3.2) :: (num17 p2.1 p2.2) :: (num17 p4.1 p4.2) :: (num17 p4.1 p4.2) :: (.pointer (some ⟨g, 3, none⟩)) :: (.bool false) :: undef :: undef :: undef :: undef :: undef :: undef :: undef :: undef :: (num17 p4.1 p4.2) :: (num17 x true) :: (.pointer (some ⟨g, 0, none⟩)) :: (.int .i64 lr) :: undef :: (num17 p4.1 p4.2) :: (.int .i64 k) :: undef :: undef :: []).toArray, []⟩ _
          refine wpAnyH_ready (rs := [4]) (by kernel_rfl) (by simp) ?_
          refine AllReadyH.cons rfl (fun K hK => ?_) AllReadyH.nil
          go_simp
          refine (hOf _ _).mono ?_
          rintro _ y4 ⟨rfl, hB4_⟩
          have hBel := hBel.trans (hB4_.mono hBel.size)
          go_wp2_with fail
          refine hK.out _ _ ?_ (fun hHeld => ?_)
          · exact ⟨((k12.below hBel k12.lt)).cell 0, ((k12.below hBel k12.lt)).cell 1, ((k8.below hBel k8.lt)).cell 0, ((k8.below hBel k8.lt)).cell 1, ((hM.below hBel hM.lt)).cell 0, ((k13.below hBel k13.lt)).cell 0, ((k13.below hBel k13.lt)).cell 1⟩
          clear hK K
          try simp only [Act.put]
          refine wpAnyH_ready (rs := [7]) (by kernel_rfl) (by simp) ?_
          refine AllReadyH.cons rfl (fun K hK => ?_) AllReadyH.nil
          go_simp
          refine (f7 _).mono ?_
          rintro _ y7 ⟨rfl, hB7_⟩
          have hBel := hBel.trans (hB7_.mono hBel.size)
          go_wp2_with fail
          refine hK.out _ _ ?_ (fun hHeld => ?_)
          · exact ⟨((k12.below hBel k12.lt)).cell 0, ((k12.below hBel k12.lt)).cell 1, ((k8.below hBel k8.lt)).cell 0, ((k8.below hBel k8.lt)).cell 1, ((hM.below hBel hM.lt)).cell 0, ((k13.below hBel k13.lt)).cell 0, ((k13.below hBel k13.lt)).cell 1⟩
          clear hK K
          try simp only [Act.put]
          refine wpAnyH_ready (rs := [8]) (by kernel_rfl) (by simp) ?_
          refine AllReadyH.cons rfl (fun K hK => ?_) AllReadyH.nil
          go_simp
          refine (f8 _).mono ?_
          rintro _ y8 ⟨rfl, hB8_⟩
          have hBel := hBel.trans (hB8_.mono hBel.size)
          go_wp2_with fail
          refine hK.out _ _ ?_ (fun hHeld => ?_)
          · exact ⟨((k12.below hBel k12.lt)).cell 0, ((k12.below hBel k12.lt)).cell 1, ((k8.below hBel k8.lt)).cell 0, ((k8.below hBel k8.lt)).cell 1, ((hM.below hBel hM.lt)).cell 0, ((k13.below hBel k13.lt)).cell 0, ((k13.below hBel k13.lt)).cell 1⟩
          clear hK K
          try simp only [Act.put]
          have z6 := (hR1.below hBel hR1.lt)
          have z7 := (hR2.below hBel hR2.lt)
          have hBz := hB.trans (hBel.mono hB.size)
          clear hR1 hR2
          have u0 := z6.cell 0
          have u1 := z6.cell 1
          have uf0 := z6.frozen 0
          have uf1 := z6.frozen 1
          refine wpAnyH_ready (rs := [9]) (by kernel_rfl) (by simp) ?_
          refine AllReadyH.cons rfl (fun K hK => ?_) AllReadyH.nil
          go_simp
          refine hK.out _ _ (⟨((k12.below hBel k12.lt).far2n (n' := g + 1 + 1) (u := .int .i64 p4.1) (v := .bool p4.2) (by omega)).cell 0, ((k12.below hBel k12.lt).far2n (n' := g + 1 + 1) (u := .int .i64 p4.1) (v := .bool p4.2) (by omega)).cell 1, ((k8.below hBel k8.lt).far2n (n' := g + 1 + 1) (u := .int .i64 p4.1) (v := .bool p4.2) (by omega)).cell 0, ((k8.below hBel k8.lt).far2n (n' := g + 1 + 1) (u := .int .i64 p4.1) (v := .bool p4.2) (by omega)).cell 1, ((hM.below hBel hM.lt).far2n (n' := g + 1 + 1) (u := .int .i64 p4.1) (v := .bool p4.2) (by omega)).cell 0, ((k13.below hBel k13.lt).far2n (n' := g + 1 + 1) (u := .int .i64 p4.1) (v := .bool p4.2) (by omega)).cell 0, ((k13.below hBel k13.lt).far2n (n' := g + 1 + 1) (u := .int .i64 p4.1) (v := .bool p4.2) (by omega)).cell 1⟩) (fun hHeld => ?_)
          clear hK K
          have v6 := z6.st2 (u := .int .i64 p4.1) (v := .bool p4.2)
          have v7 := z7.far2n (n' := g + 1 + 1) (u := .int .i64 p4.1) (v := .bool p4.2) (by omega)
          clear u0 u1 uf0 uf1 z6 z7
          have u0 := v7.cell 0
          have u1 := v7.cell 1
          have uf0 := v7.frozen 0
          have uf1 := v7.frozen 1
          refine wpAnyH_ready (rs := [10]) (by kernel_rfl) (by simp) ?_
          refine AllReadyH.cons rfl (fun K hK => ?_) AllReadyH.nil
          go_simp
          refine hK.out _ _ (⟨(((k12.below hBel k12.lt).far2n (n' := g + 1 + 1) (u := .int .i64 p4.1) (v := .bool p4.2) (by omega)).far2n (n' := g + 1 + 1 + 1) (u := .int .i64 p8.1) (v := .bool p8.2) (by omega)).cell 0, (((k12.below hBel k12.lt).far2n (n' := g + 1 + 1) (u := .int .i64 p4.1) (v := .bool p4.2) (by omega)).far2n (n' := g + 1 + 1 + 1) (u := .int .i64 p8.1) (v := .bool p8.2) (by omega)).cell 1, (((k8.below hBel k8.lt).far2n (n' := g + 1 + 1) (u := .int .i64 p4.1) (v := .bool p4.2) (by omega)).far2n (n' := g + 1 + 1 + 1) (u := .int .i64 p8.1) (v := .bool p8.2) (by omega)).cell 0, (((k8.below hBel k8.lt).far2n (n' := g + 1 + 1) (u := .int .i64 p4.1) (v := .bool p4.2) (by omega)).far2n (n' := g + 1 + 1 + 1) (u := .int .i64 p8.1) (v := .bool p8.2) (by omega)).cell 1, (((hM.below hBel hM.lt).far2n (n' := g + 1 + 1) (u := .int .i64 p4.1) (v := .bool p4.2) (by omega)).far2n (n' := g + 1 + 1 + 1) (u := .int .i64 p8.1) (v := .bool p8.2) (by omega)).cell 0, (((k13.below hBel k13.lt).far2n (n' := g + 1 + 1) (u := .int .i64 p4.1) (v := .bool p4.2) (by omega)).far2n (n' := g + 1 + 1 + 1) (u := .int .i64 p8.1) (v := .bool p8.2) (by omega)).cell 0, (((k13.below hBel k13.lt).far2n (n' := g + 1 + 1) (u := .int .i64 p4.1) (v := .bool p4.2) (by omega)).far2n (n' := g + 1 + 1 + 1) (u := .int .i64 p8.1) (v := .bool p8.2) (by omega)).cell 1⟩) (fun hHeld => ?_)
          clear hK K
          have z6 := v6.far2n (n' := g + 1 + 1 + 1) (u := .int .i64 p8.1) (v := .bool p8.2) (by omega)
          have z7 := v7.st2 (u := .int .i64 p8.1) (v := .bool p8.2)
          clear u0 u1 uf0 uf1 v6 v7
          have hBz := (((hBz.setCell (p := ⟨g + 1 + 1, 0, none⟩) (by show _ ≤ g + 1 + 1; omega) (.int .i64 p4.1)).setCell (p := ⟨g + 1 + 1, 1, none⟩) (by show _ ≤ g + 1 + 1; omega) (.bool p4.2)).setCell (p := ⟨g + 1 + 1 + 1, 0, none⟩) (by show _ ≤ g + 1 + 1 + 1; omega) (.int .i64 p8.1)).setCell (p := ⟨g + 1 + 1 + 1, 1, none⟩) (by show _ ≤ g + 1 + 1 + 1; omega) (.bool p8.2)
          refine wpAnyH_done (by kernel_rfl) ?_ _
          refine NoPanic.normal ?_
          have r0 := z6.cell 0
          have r1 := z6.cell 1
          have r2 := z7.cell 0
          have r3 := z7.cell 1
          clear hgw
          go_wp2
          (try simp only [Exit.inBlock, Exit.then])
          refine bodyPost_ret (results_cell2_row rfl _ _ (g + 1 + 1) (g + 1 + 1 + 1) 59 _ _ _ rfl rfl z6 z7 rfl rfl (by kernel_rfl) (by kernel_rfl)) rfl ?_
          exact ⟨rfl, hBz⟩
        · change ∀ w, Calls _ _ #[num17 lr true, num17 p6.1 p6.2, _] w _ at f7
          go_upto_region 6 with fail
          have hBel : Below w5.heap.size w5 w5.drew := bdrew w5
          refine wp_region_noPanic ?_
          refine wp_region_held_drew (S := fun w' => w'.cell? ⟨g, 1, none⟩ = some (.int .i64 mu) ∧ w'.cell? ⟨n11, 0, none⟩ = some (.int .i64 p2.1) ∧ w'.cell? ⟨n11, 1, none⟩ = some (.bool p2.2) ∧ w'.cell? ⟨n12, 0, none⟩ = some (.int .i64 p4.1) ∧ w'.cell? ⟨n12, 1, none⟩ = some (.bool p4.2)) (by kernel_rfl) ?_ (fun hHeld => ?_)
          · exact ⟨((hM.below hBel hM.lt)).cell 1, ((k11.below hBel k11.lt)).cell 0, ((k11.below hBel k11.lt)).cell 1, ((k12.below hBel k12.lt)).cell 0, ((k12.below hBel k12.lt)).cell 1⟩
          refine wpAnyH_take (i := 0) (v := ?qv0) rfl (by kernel_rfl) (by kernel_rfl) (by kernel_rfl) (fun _ _ _ h => h) (Or.inl ⟨by kernel_rfl, ?qhy0⟩) (by assumption) ?qrest0
          case qhy0 => (intro w hSw; (try dsimp only at hSw); go_simp; try (with_reducible rfl))
          try simp only [Act.put]
          refine wpAnyH_take (i := 1) (v := ?qv1) rfl (by kernel_rfl) (by kernel_rfl) (by kernel_rfl) (fun _ _ _ h => h) (Or.inl ⟨by kernel_rfl, ?qhy1⟩) (by assumption) ?qrest1
          case qhy1 => (intro w hSw; (try dsimp only at hSw); go_simp; try (with_reducible rfl))
          try simp only [Act.put]
          refine wpAnyH_take (i := 2) (v := ?qv2) rfl (by kernel_rfl) (by kernel_rfl) (by kernel_rfl) (fun _ _ _ h => h) (Or.inl ⟨by kernel_rfl, ?qhy2⟩) (by assumption) ?qrest2
          case qhy2 => (intro w hSw; (try dsimp only at hSw); go_simp; try (with_reducible rfl))
          try simp only [Act.put]
          refine wpAnyH_take (i := 4) (v := ?qv4) rfl (by kernel_rfl) (by kernel_rfl) (by kernel_rfl) (fun _ _ _ h => h) (Or.inl ⟨by kernel_rfl, ?qhy4⟩) (by assumption) ?qrest4
          case qhy4 => (intro w hSw; (try dsimp only at hSw); go_simp; try (with_reducible rfl))
          try simp only [Act.put]
          refine wpAnyH_take (i := 5) (v := ?qv5) rfl (by kernel_rfl) (by kernel_rfl) (by kernel_rfl) (fun _ _ _ h => h) (Or.inl ⟨by kernel_rfl, ?qhy5⟩) (by assumption) ?qrest5
          case qhy5 => (intro w hSw; (try dsimp only at hSw); go_simp; try (with_reducible rfl))
          try simp only [Act.put]
          change wpAnyH _ _ _ _ _ _ _ ⟨((.agg #[.int .i64 lr, .int .i64 mu, .int .i64 wd, .bool true]) :: (.int .i64 k) :: (.agg #[.int .i64 x, .int .i64 v, .int .i64 gr]) :: (.pointer (some ⟨g, 0, none⟩)) :: undef :: (.pointer (some ⟨g + 1, 0, none⟩)) :: (.pointer (some ⟨g + 1 + 1, 0, none⟩)) :: (.pointer (some ⟨g + 1 + 1 + 1, 0, none⟩)) :: (.pointer (some ⟨n8, 0, none⟩)) :: (.pointer (some ⟨n9, 0, none⟩)) :: (.pointer (some ⟨n10, 0, none⟩)) :: (.pointer (some ⟨n11, 0, none⟩)) :: (.pointer (some ⟨n12, 0, none⟩)) :: (.pointer (some ⟨n13, 0, none⟩)) :: (.pointer (some ⟨g + 1, 0, none⟩)) :: (.int .i64 x) :: (num17 x true) :: (.pointer (some ⟨g + 1, 1, none⟩)) :: (.int .i64 v) :: (num17 v true) :: (.pointer (some ⟨g + 1, 2, none⟩)) :: (.int .i64 gr) :: (num17 gr true) :: (num17 gr true) :: (.pointer (some ⟨g, 2, none⟩)) :: (.int .i64 wd) :: (num17 wd true) :: (num17 x true) :: (.int .i64 k) :: (num17 p1.1 p1.2) :: (num17 p2.1 p2.2) :: (.pointer (some ⟨g, 1, none⟩)) :: (.int .i64 mu) :: (num17 mu true) :: (num17 v true) :: (.int .i64 k) :: (num17 p3.1 p3.2) :: (num17 p2.1 p2.2) :: (num17 p4.1 p4.2) :: (num17 p4.1 p4.2) :: (.pointer (some ⟨g, 3, none⟩)) :: (.bool true) :: (num17 p2.1 p2.2) :: (.pointer (some ⟨g, 1, none⟩)) :: (.int .i64 mu) :: undef :: (num17 p4.1 p4.2) :: (.int .i64 k) :: undef :: undef :: undef :: undef :: undef :: undef :: undef :: undef :: undef :: undef :: undef :: []).toArray, []⟩ _
          refine wpAnyH_ready (rs := [3]) (by kernel_rfl) (by simp) ?_
          refine AllReadyH.cons rfl (fun K hK => ?_) AllReadyH.nil
          go_simp
          refine (hOf _ _).mono ?_
          rintro _ t3 ⟨rfl, hB3_⟩
          have hBel := hBel.trans (hB3_.mono hBel.size)
          go_wp2_with fail
          refine hK.out _ _ ?_ (fun hHeld => ?_)
          · exact ⟨((hM.below hBel hM.lt)).cell 1, ((k11.below hBel k11.lt)).cell 0, ((k11.below hBel k11.lt)).cell 1, ((k12.below hBel k12.lt)).cell 0, ((k12.below hBel k12.lt)).cell 1⟩
          clear hK K
          try simp only [Act.put]
          refine wpAnyH_ready (rs := [6]) (by kernel_rfl) (by simp) ?_
          refine AllReadyH.cons rfl (fun K hK => ?_) AllReadyH.nil
          go_simp
          refine (f5 _).mono ?_
          rintro _ t6 ⟨rfl, hB6_⟩
          have hBel := hBel.trans (hB6_.mono hBel.size)
          go_wp2_with fail
          refine hK.out _ _ ?_ (fun hHeld => ?_)
          · exact ⟨((hM.below hBel hM.lt)).cell 1, ((k11.below hBel k11.lt)).cell 0, ((k11.below hBel k11.lt)).cell 1, ((k12.below hBel k12.lt)).cell 0, ((k12.below hBel k12.lt)).cell 1⟩
          clear hK K
          try simp only [Act.put]
          refine wpAnyH_ready (rs := [7]) (by kernel_rfl) (by simp) ?_
          refine AllReadyH.cons rfl (fun K hK => ?_) AllReadyH.nil
          go_simp
          refine (f6 _).mono ?_
          rintro _ t7 ⟨rfl, hB7_⟩
          have hBel := hBel.trans (hB7_.mono hBel.size)
          go_wp2_with fail
          refine hK.out _ _ ?_ (fun hHeld => ?_)
          · exact ⟨((hM.below hBel hM.lt)).cell 1, ((k11.below hBel k11.lt)).cell 0, ((k11.below hBel k11.lt)).cell 1, ((k12.below hBel k12.lt)).cell 0, ((k12.below hBel k12.lt)).cell 1⟩
          clear hK K
          try simp only [Act.put]
          have z := k13.below hBel k13.lt
          have u0 := z.cell 0
          have u1 := z.cell 1
          have uf0 := z.frozen 0
          have uf1 := z.frozen 1
          refine wpAnyH_ready (rs := [8]) (by kernel_rfl) (by simp) ?_
          refine AllReadyH.cons rfl (fun K hK => ?_) AllReadyH.nil
          go_simp
          refine hK.out _ _ (⟨((hM.below hBel hM.lt).far2n (n' := n13) (u := .int .i64 p6.1) (v := .bool p6.2) (by omega)).cell 1, ((k11.below hBel k11.lt).far2n (n' := n13) (u := .int .i64 p6.1) (v := .bool p6.2) (by omega)).cell 0, ((k11.below hBel k11.lt).far2n (n' := n13) (u := .int .i64 p6.1) (v := .bool p6.2) (by omega)).cell 1, ((k12.below hBel k12.lt).far2n (n' := n13) (u := .int .i64 p6.1) (v := .bool p6.2) (by omega)).cell 0, ((k12.below hBel k12.lt).far2n (n' := n13) (u := .int .i64 p6.1) (v := .bool p6.2) (by omega)).cell 1⟩) (fun hHeld => ?_)
          clear hK K
          try simp only [Act.put]
          refine wpAnyH_done (by kernel_rfl) ?_ _
          refine NoPanic.normal ?_
          obtain ⟨w6, hw_⟩ : ∃ W, W = (t7.setCell ⟨n13, 0, none⟩ (.int .i64 p6.1)).setCell ⟨n13, 1, none⟩ (.bool p6.2) := ⟨_, rfl⟩
          clear k13
          have k13 := z.st2 (u := .int .i64 p6.1) (v := .bool p6.2)
          have hBe := ((hB.trans (hBel.mono hB.size)).setCell (p := ⟨n13, 0, none⟩) lB (.int .i64 p6.1)).setCell (p := ⟨n13, 1, none⟩) lB (.bool p6.2)
          rw [← hw_] at k13 hBe ⊢
          clear hB z u0 u1 uf0 uf1
          have hB := hBe
          clear hBe d3
          have h_ := (Blk.below k8 hBel k8.lt).far2n (n' := n13) (u := .int .i64 p6.1) (v := .bool p6.2) (by omega)
          rw [← hw_] at h_
          clear k8
          have k8 := h_
          clear h_
          have h_ := (Blk.below k12 hBel k12.lt).far2n (n' := n13) (u := .int .i64 p6.1) (v := .bool p6.2) (by omega)
          rw [← hw_] at h_
          clear k12
          have k12 := h_
          clear h_
          have h_ := (Blk.below hM hBel hM.lt).far2n (n' := n13) (u := .int .i64 p6.1) (v := .bool p6.2) (by omega)
          rw [← hw_] at h_
          clear hM
          have hM := h_
          clear h_
          have h_ := (Blk.below hR1 hBel hR1.lt).far2n (n' := n13) (u := .int .i64 p6.1) (v := .bool p6.2) (by omega)
          rw [← hw_] at h_
          clear hR1
          have hR1 := h_
          clear h_
          have h_ := (Blk.below hR2 hBel hR2.lt).far2n (n' := n13) (u := .int .i64 p6.1) (v := .bool p6.2) (by omega)
          rw [← hw_] at h_
          clear hR2
          have hR2 := h_
          clear h_
          clear hBel hw_ hHeld k11 hB3_ hB6_ hB7_
          go_upto_region 7 with fail
          have hBel : Below w6.heap.size w6 w6.drew := bdrew w6
          refine wp_region_noPanic ?_
          refine wp_region_held_drew (S := fun w' => w'.cell? ⟨n12, 0, none⟩ = some (.int .i64 p4.1) ∧ w'.cell? ⟨n12, 1, none⟩ = some (.bool p4.2) ∧ w'.cell? ⟨n8, 0, none⟩ = some (.int .i64 x) ∧ w'.cell? ⟨n8, 1, none⟩ = some (.bool true) ∧ w'.cell? ⟨g, 0, none⟩ = some (.int .i64 lr) ∧ w'.cell? ⟨n13, 0, none⟩ = some (.int .i64 p6.1) ∧ w'.cell? ⟨n13, 1, none⟩ = some (.bool p6.2)) (by kernel_rfl) ?_ (fun hHeld => ?_)
          · exact ⟨((k12.below hBel k12.lt)).cell 0, ((k12.below hBel k12.lt)).cell 1, ((k8.below hBel k8.lt)).cell 0, ((k8.below hBel k8.lt)).cell 1, ((hM.below hBel hM.lt)).cell 0, ((k13.below hBel k13.lt)).cell 0, ((k13.below hBel k13.lt)).cell 1⟩
          refine wpAnyH_take (i := 0) (v := ?ev0) rfl (by kernel_rfl) (by kernel_rfl) (by kernel_rfl) (fun _ _ _ h => h) (Or.inl ⟨by kernel_rfl, ?ehy0⟩) (by assumption) ?erest0
          case ehy0 => (intro w hSw; (try dsimp only at hSw); go_simp; try (with_reducible rfl))
          try simp only [Act.put]
          refine wpAnyH_take (i := 1) (v := ?ev1) rfl (by kernel_rfl) (by kernel_rfl) (by kernel_rfl) (fun _ _ _ h => h) (Or.inl ⟨by kernel_rfl, ?ehy1⟩) (by assumption) ?erest1
          case ehy1 => (intro w hSw; (try dsimp only at hSw); go_simp; try (with_reducible rfl))
          try simp only [Act.put]
          refine wpAnyH_take (i := 2) (v := ?ev2) rfl (by kernel_rfl) (by kernel_rfl) (by kernel_rfl) (fun _ _ _ h => h) (Or.inl ⟨by kernel_rfl, ?ehy2⟩) (by assumption) ?erest2
          case ehy2 => (intro w hSw; (try dsimp only at hSw); go_simp; try (with_reducible rfl))
          try simp only [Act.put]
          refine wpAnyH_take (i := 3) (v := ?ev3) rfl (by kernel_rfl) (by kernel_rfl) (by kernel_rfl) (fun _ _ _ h => h) (Or.inl ⟨by kernel_rfl, ?ehy3⟩) (by assumption) ?erest3
          case ehy3 => (intro w hSw; (try dsimp only at hSw); go_simp; try (with_reducible rfl))
          try simp only [Act.put]
          refine wpAnyH_take (i := 5) (v := ?ev5) rfl (by kernel_rfl) (by kernel_rfl) (by kernel_rfl) (fun _ _ _ h => h) (Or.inl ⟨by kernel_rfl, ?ehy5⟩) (by assumption) ?erest5
          case ehy5 => (intro w hSw; (try dsimp only at hSw); go_simp; try (with_reducible rfl))
          try simp only [Act.put]
          refine wpAnyH_take (i := 6) (v := ?ev6) rfl (by kernel_rfl) (by kernel_rfl) (by kernel_rfl) (fun _ _ _ h => h) (Or.inl ⟨by kernel_rfl, ?ehy6⟩) (by assumption) ?erest6
          case ehy6 => (intro w hSw; (try dsimp only at hSw); go_simp; try (with_reducible rfl))
          try simp only [Act.put]
          change wpAnyH _ _ _ _ _ _ _ ⟨((.agg #[.int .i64 lr, .int .i64 mu, .int .i64 wd, .bool true]) :: (.int .i64 k) :: (.agg #[.int .i64 x, .int .i64 v, .int .i64 gr]) :: (.pointer (some ⟨g, 0, none⟩)) :: undef :: (.pointer (some ⟨g + 1, 0, none⟩)) :: (.pointer (some ⟨g + 1 + 1, 0, none⟩)) :: (.pointer (some ⟨g + 1 + 1 + 1, 0, none⟩)) :: (.pointer (some ⟨n8, 0, none⟩)) :: (.pointer (some ⟨n9, 0, none⟩)) :: (.pointer (some ⟨n10, 0, none⟩)) :: (.pointer (some ⟨n11, 0, none⟩)) :: (.pointer (some ⟨n12, 0, none⟩)) :: (.pointer (some ⟨n13, 0, none⟩)) :: (.pointer (some ⟨g + 1, 0, none⟩)) :: (.int .i64 x) :: (num17 x true) :: (.pointer (some ⟨g + 1, 1, none⟩)) :: (.int .i64 v) :: (num17 v true) :: (.pointer (some ⟨g + 1, 2, none⟩)) :: (.int .i64 gr) :: (num17 gr true) :: (num17 gr true) :: (.pointer (some ⟨g, 2, none⟩)) :: (.int .i64 wd) :: (num17 wd true) :: (num17 x true) :: (.int .i64 k) :: (num17 p1.1 p1.2) :: (num17 p2.1 p2.2) :: (.pointer (some ⟨g, 1, none⟩)) :: (.int .i64 mu) :: (num17 mu true) :: (num17 v true) :: (.int .i64 k) :: (num17 p3.1 p3.2) :: (num17 p2.1 p2.2) :: (num17 p4.1 p4.2) :: (num17 p4.1 p4.2) :: (.pointer (some ⟨g, 3, none⟩)) :: (.bool true) :: (num17 p2.1 p2.2) :: (.pointer (some ⟨g, 1, none⟩)) :: (.int .i64 mu) :: (num17 mu true) :: (num17 p4.1 p4.2) :: (.int .i64 k) :: (num17 p5.1 p5.2) :: (num17 p6.1 p6.2) :: (num17 p4.1 p4.2) :: (num17 x true) :: (.pointer (some ⟨g, 0, none⟩)) :: (.int .i64 lr) :: undef :: (num17 p6.1 p6.2) :: (.int .i64 k) :: undef :: undef :: []).toArray, []⟩ _
          refine wpAnyH_ready (rs := [4]) (by kernel_rfl) (by simp) ?_
          refine AllReadyH.cons rfl (fun K hK => ?_) AllReadyH.nil
          go_simp
          refine (hOf _ _).mono ?_
          rintro _ y4 ⟨rfl, hB4_⟩
          have hBel := hBel.trans (hB4_.mono hBel.size)
          go_wp2_with fail
          refine hK.out _ _ ?_ (fun hHeld => ?_)
          · exact ⟨((k12.below hBel k12.lt)).cell 0, ((k12.below hBel k12.lt)).cell 1, ((k8.below hBel k8.lt)).cell 0, ((k8.below hBel k8.lt)).cell 1, ((hM.below hBel hM.lt)).cell 0, ((k13.below hBel k13.lt)).cell 0, ((k13.below hBel k13.lt)).cell 1⟩
          clear hK K
          try simp only [Act.put]
          refine wpAnyH_ready (rs := [7]) (by kernel_rfl) (by simp) ?_
          refine AllReadyH.cons rfl (fun K hK => ?_) AllReadyH.nil
          go_simp
          refine (f7 _).mono ?_
          rintro _ y7 ⟨rfl, hB7_⟩
          have hBel := hBel.trans (hB7_.mono hBel.size)
          go_wp2_with fail
          refine hK.out _ _ ?_ (fun hHeld => ?_)
          · exact ⟨((k12.below hBel k12.lt)).cell 0, ((k12.below hBel k12.lt)).cell 1, ((k8.below hBel k8.lt)).cell 0, ((k8.below hBel k8.lt)).cell 1, ((hM.below hBel hM.lt)).cell 0, ((k13.below hBel k13.lt)).cell 0, ((k13.below hBel k13.lt)).cell 1⟩
          clear hK K
          try simp only [Act.put]
          refine wpAnyH_ready (rs := [8]) (by kernel_rfl) (by simp) ?_
          refine AllReadyH.cons rfl (fun K hK => ?_) AllReadyH.nil
          go_simp
          refine (f8 _).mono ?_
          rintro _ y8 ⟨rfl, hB8_⟩
          have hBel := hBel.trans (hB8_.mono hBel.size)
          go_wp2_with fail
          refine hK.out _ _ ?_ (fun hHeld => ?_)
          · exact ⟨((k12.below hBel k12.lt)).cell 0, ((k12.below hBel k12.lt)).cell 1, ((k8.below hBel k8.lt)).cell 0, ((k8.below hBel k8.lt)).cell 1, ((hM.below hBel hM.lt)).cell 0, ((k13.below hBel k13.lt)).cell 0, ((k13.below hBel k13.lt)).cell 1⟩
          clear hK K
          try simp only [Act.put]
          have z6 := (hR1.below hBel hR1.lt)
          have z7 := (hR2.below hBel hR2.lt)
          have hBz := hB.trans (hBel.mono hB.size)
          clear hR1 hR2
          have u0 := z6.cell 0
          have u1 := z6.cell 1
          have uf0 := z6.frozen 0
          have uf1 := z6.frozen 1
          refine wpAnyH_ready (rs := [9]) (by kernel_rfl) (by simp) ?_
          refine AllReadyH.cons rfl (fun K hK => ?_) AllReadyH.nil
          go_simp
          refine hK.out _ _ (⟨((k12.below hBel k12.lt).far2n (n' := g + 1 + 1) (u := .int .i64 p4.1) (v := .bool p4.2) (by omega)).cell 0, ((k12.below hBel k12.lt).far2n (n' := g + 1 + 1) (u := .int .i64 p4.1) (v := .bool p4.2) (by omega)).cell 1, ((k8.below hBel k8.lt).far2n (n' := g + 1 + 1) (u := .int .i64 p4.1) (v := .bool p4.2) (by omega)).cell 0, ((k8.below hBel k8.lt).far2n (n' := g + 1 + 1) (u := .int .i64 p4.1) (v := .bool p4.2) (by omega)).cell 1, ((hM.below hBel hM.lt).far2n (n' := g + 1 + 1) (u := .int .i64 p4.1) (v := .bool p4.2) (by omega)).cell 0, ((k13.below hBel k13.lt).far2n (n' := g + 1 + 1) (u := .int .i64 p4.1) (v := .bool p4.2) (by omega)).cell 0, ((k13.below hBel k13.lt).far2n (n' := g + 1 + 1) (u := .int .i64 p4.1) (v := .bool p4.2) (by omega)).cell 1⟩) (fun hHeld => ?_)
          clear hK K
          have v6 := z6.st2 (u := .int .i64 p4.1) (v := .bool p4.2)
          have v7 := z7.far2n (n' := g + 1 + 1) (u := .int .i64 p4.1) (v := .bool p4.2) (by omega)
          clear u0 u1 uf0 uf1 z6 z7
          have u0 := v7.cell 0
          have u1 := v7.cell 1
          have uf0 := v7.frozen 0
          have uf1 := v7.frozen 1
          refine wpAnyH_ready (rs := [10]) (by kernel_rfl) (by simp) ?_
          refine AllReadyH.cons rfl (fun K hK => ?_) AllReadyH.nil
          go_simp
          refine hK.out _ _ (⟨(((k12.below hBel k12.lt).far2n (n' := g + 1 + 1) (u := .int .i64 p4.1) (v := .bool p4.2) (by omega)).far2n (n' := g + 1 + 1 + 1) (u := .int .i64 p8.1) (v := .bool p8.2) (by omega)).cell 0, (((k12.below hBel k12.lt).far2n (n' := g + 1 + 1) (u := .int .i64 p4.1) (v := .bool p4.2) (by omega)).far2n (n' := g + 1 + 1 + 1) (u := .int .i64 p8.1) (v := .bool p8.2) (by omega)).cell 1, (((k8.below hBel k8.lt).far2n (n' := g + 1 + 1) (u := .int .i64 p4.1) (v := .bool p4.2) (by omega)).far2n (n' := g + 1 + 1 + 1) (u := .int .i64 p8.1) (v := .bool p8.2) (by omega)).cell 0, (((k8.below hBel k8.lt).far2n (n' := g + 1 + 1) (u := .int .i64 p4.1) (v := .bool p4.2) (by omega)).far2n (n' := g + 1 + 1 + 1) (u := .int .i64 p8.1) (v := .bool p8.2) (by omega)).cell 1, (((hM.below hBel hM.lt).far2n (n' := g + 1 + 1) (u := .int .i64 p4.1) (v := .bool p4.2) (by omega)).far2n (n' := g + 1 + 1 + 1) (u := .int .i64 p8.1) (v := .bool p8.2) (by omega)).cell 0, (((k13.below hBel k13.lt).far2n (n' := g + 1 + 1) (u := .int .i64 p4.1) (v := .bool p4.2) (by omega)).far2n (n' := g + 1 + 1 + 1) (u := .int .i64 p8.1) (v := .bool p8.2) (by omega)).cell 0, (((k13.below hBel k13.lt).far2n (n' := g + 1 + 1) (u := .int .i64 p4.1) (v := .bool p4.2) (by omega)).far2n (n' := g + 1 + 1 + 1) (u := .int .i64 p8.1) (v := .bool p8.2) (by omega)).cell 1⟩) (fun hHeld => ?_)
          clear hK K
          have z6 := v6.far2n (n' := g + 1 + 1 + 1) (u := .int .i64 p8.1) (v := .bool p8.2) (by omega)
          have z7 := v7.st2 (u := .int .i64 p8.1) (v := .bool p8.2)
          clear u0 u1 uf0 uf1 v6 v7
          have hBz := (((hBz.setCell (p := ⟨g + 1 + 1, 0, none⟩) (by show _ ≤ g + 1 + 1; omega) (.int .i64 p4.1)).setCell (p := ⟨g + 1 + 1, 1, none⟩) (by show _ ≤ g + 1 + 1; omega) (.bool p4.2)).setCell (p := ⟨g + 1 + 1 + 1, 0, none⟩) (by show _ ≤ g + 1 + 1 + 1; omega) (.int .i64 p8.1)).setCell (p := ⟨g + 1 + 1 + 1, 1, none⟩) (by show _ ≤ g + 1 + 1 + 1; omega) (.bool p8.2)
          refine wpAnyH_done (by kernel_rfl) ?_ _
          refine NoPanic.normal ?_
          have r0 := z6.cell 0
          have r1 := z6.cell 1
          have r2 := z7.cell 0
          have r3 := z7.cell 1
          clear hgw
          go_wp2
          (try simp only [Exit.inBlock, Exit.then])
          refine bodyPost_ret (results_cell2_row rfl _ _ (g + 1 + 1) (g + 1 + 1 + 1) 59 _ _ _ rfl rfl z6 z7 rfl rfl (by kernel_rfl) (by kernel_rfl)) rfl ?_
          exact ⟨rfl, hBz⟩
end Go.Proofs.Ytbnnonmkkkhepaa
