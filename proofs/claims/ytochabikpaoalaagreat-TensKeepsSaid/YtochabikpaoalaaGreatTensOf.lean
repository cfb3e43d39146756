/- tens.Of: a row of numbers, kept in blocks, or why it is not. -/
import Derived.Test.YtochabikpaoalaaGreatChunk
import Derived.Test.YtochabikpaoalaaGreatTens1
import Derived.Test.YtochabikpaoalaaGreatStillR
import Derived.Test.YtochabikpaoalaaGreatMul
import Derived.Maps.OwnIn
import Derived.Outline
import Derived.Deep.DeepMust
namespace Go.Proofs.YtochabikpaoalaaGreat
open Go.RowKit Go.Shelf
attribute [local go_sem] Oper.semAt_some
theorem odd_four (p : List Int) : oddP 4 p = p.any (oddB true) := rfl
theorem odd_kind {kk : Int} (h : kk ≠ 4) (p : List Int) : oddP kk p = p.any (oddB (sgn kk)) := by
  have e4 : (kk == 4) = false := by rw [beq_eq_false_iff_ne]; exact h
  unfold oddP; rw [e4, Bool.false_or]
theorem pack_bad (kk : Int) (v : Value) (p : List Int) (w : World) (h : IsI w v p) (hk : 0 ≤ kk ∧ kk ≤ 4) (ho : oddP kk p = true) :
    Calls Tryz.prog 35 #[.int .i64 kk, v] w fun e w' => ∃ b, e = .returned (.tuple #[b, .int .i64 1]) ∧ IsBk w' b 0 0 [] [] ∧ Below w.heap.size w w' := by
  by_cases k4 : kk = 4
  · exact pack_oddw kk v p w h k4 (by rw [k4, odd_four] at ho; exact ho)
  · exact pack_odd kk v p w h (by omega) (by rw [odd_kind k4] at ho; exact ho)
theorem pack_good (kk : Int) (v : Value) (p : List Int) (w : World) (h : IsI w v p) (hk : 0 ≤ kk ∧ kk ≤ 4) (hl : p.length ≤ 4096) (hi : ∀ x ∈ p, I64 x) (ho : oddP kk p = false) :
    Calls Tryz.prog 35 #[.int .i64 kk, v] w fun e w' => ∃ b, e = .returned (.tuple #[b, .int .i64 0]) ∧ IsBk w' b (bkOf kk p).1 (bkOf kk p).2.1 (bkOf kk p).2.2.1 (bkOf kk p).2.2.2 ∧ Below w.heap.size w w' ∧ FreshB w.heap.size b := by
  unfold bkOf
  by_cases k4 : kk = 4
  · rw [if_pos k4]
    exact pack_wideF kk v p w h k4 hl (by rw [k4, odd_four] at ho; exact ho)
  · rw [if_neg k4]
    obtain ⟨n, rfl⟩ := Int.eq_ofNat_of_zero_le hk.1
    exact pack_codedF n v p w h n (by omega) rfl hl hi (by rw [odd_kind k4] at ho; exact ho)
theorem box4 (w : World) (t1 t2 t3 t4 : TypeId) (c1 c2 c3 c4 : Array Value) : ∃ W, W = (((w.alloc (.cells c1 t1)).alloc (.cells c2 t2)).alloc (.cells c3 t3)).alloc (.cells c4 t4) ∧ Blk W w.heap.size t1 c1 ∧ Blk W (w.heap.size + 1) t2 c2 ∧ Blk W (w.heap.size + 1 + 1) t3 c3 ∧ Blk W (w.heap.size + 1 + 1 + 1) t4 c4 ∧ Below w.heap.size w W := by
  have h2 := Blk.new (w.alloc (.cells c1 t1)) t2 c2
  have h3 := Blk.new ((w.alloc (.cells c1 t1)).alloc (.cells c2 t2)) t3 c3
  have h4 := Blk.new (((w.alloc (.cells c1 t1)).alloc (.cells c2 t2)).alloc (.cells c3 t3)) t4 c4
  simp only [World.size_alloc] at h2 h3 h4
  exact ⟨_, rfl, (((Blk.new w t1 c1).alloc _).alloc _).alloc _, (h2.alloc _).alloc _, h3.alloc _, h4, ((((Below.refl _ w).alloc (Nat.le_refl _) _).alloc (by simp) _).alloc (by simp; omega) _).alloc (by simp; omega) _⟩
def zeroSt : Array Value := #[.int .i64 0, .int .i64 0, .int .i64 0, .int .i64 0, .int .i64 0, .slice none 0 0]
theorem IsSt.zero (w : World) : IsSt w (.agg #[.int .i64 0, .int .i64 0, .int .i64 0, .int .i64 0, .int .i64 0, .slice none 0 0]) (0, 0, 0, 0, 0, []) := ⟨_, rfl, IsBs.nil w⟩
/-- the block of the i-th part -/
def bkP (k m o : Int) (Z : Nat) (l : List Int) (i : Nat) : Bk := bkOf (kindOf k m o l.length (partZ Z l i)) (partZ Z l i)
def oddPi (k m o : Int) (Z : Nat) (l : List Int) (i : Nat) : Bool := oddP (kindOf k m o l.length (partZ Z l i)) (partZ Z l i)
/-- what holds behind some rounds -/
def OfI (k m o : Int) (Z : Nat) (A : Option Addr) (c : Nat) (l : List Int) (g X b : Nat) (ps : List Nat) (W : World) : Prop :=
  (∃ v, Blk W X 26 #[.int .i64 k, .int .i64 Z, .int .i64 m, .int .i64 o, .int .i64 l.length, v] ∧ OwnBs W b b v (ps.map (bkP k m o Z l))) ∧ (∀ i ∈ ps, oddPi k m o Z l i = false) ∧
  Blk W g 23 #[.int .i64 k, .int .i64 Z, .int .i64 m, .int .i64 o] ∧ Blk W (g + 1) 34 #[.slice A l.length c] ∧
  Blk W (g + 1 + 1) 26 #[.int .i64 0, .int .i64 0, .int .i64 0, .int .i64 0, .int .i64 0, .slice none 0 0] ∧ Blk W (g + 1 + 1 + 1) 36 #[.int .i64 0]
/-- what holds where a part may not be -/
def OfX (k m o : Int) (Z : Nat) (l : List Int) (g : Nat) (ps : List Nat) (W : World) : Prop :=
  (∃ i ∈ ps, oddPi k m o Z l i = true) ∧ Blk W (g + 1 + 1) 26 #[.int .i64 0, .int .i64 0, .int .i64 0, .int .i64 0, .int .i64 0, .slice none 0 0] ∧ Blk W (g + 1 + 1 + 1) 36 #[.int .i64 1]
section
variable {X Y : World} {row : Option Nat}
theorem blk_own {g : Nat} {t : TypeId} {cs : Array Value} (h : Blk X g t cs) (hg : X.grownBy Y row) (hr : ∀ r, row = some r → ∃ o : Obj, X.heap[r]? = some o ∧ o.isCells = false) : Blk Y g t cs :=
  h.grown hg fun e => by
    obtain ⟨o, ho, hc⟩ := hr g e.symm
    unfold Blk at h; rw [h] at ho; cases ho; cases hc
theorem away_own {v : Value} {A : Option Addr} {n c m : Nat} {xs : List Value} (_ : v = .slice A n c) (h : Reads X X.heap.size 1 A m xs) (hm : 0 < m) (hxs : xs.length = m) (hr : ∀ r, row = some r → ∃ o : Obj, X.heap[r]? = some o ∧ o.isCells = false) : ∀ g, row = some g → v.ownBlock ≠ some g := by
  intro g e e2
  subst v
  obtain ⟨ad, rfl, hb, hc⟩ := h.2 hm
  have e3 : ad.block = g := by simpa [Value.ownBlock] using e2
  obtain ⟨o, ho, hcl⟩ := hr g e
  have := hc 0 xs[0] (List.getElem?_eq_getElem (by omega))
  have hbk : (ad.add 0).block = g := by rw [block_of_add]; exact e3
  unfold World.cell? at this
  rw [hbk, ho] at this
  cases o <;> simp_all [Obj.isCells]
theorem IsI.ownr {v : Value} {l : List Int} (h : IsI X v l) (hg : X.grownBy Y row) (hr : ∀ r, row = some r → ∃ o : Obj, X.heap[r]? = some o ∧ o.isCells = false) : IsI Y v l :=
  h.grownF hg fun g e => by
    obtain ⟨A, c, e1, h1, h2, h4⟩ := h
    rcases List.eq_nil_or_concat l with rfl | ⟨_, _, rfl⟩
    · exact .inl rfl
    · exact .inr (away_own e1 h4 (by simp) (by rw [is_len]) hr g e)
theorem IsY.ownr {v : Value} {l : List Nat} (h : IsY X v l) (hg : X.grownBy Y row) (hr : ∀ r, row = some r → ∃ o : Obj, X.heap[r]? = some o ∧ o.isCells = false) : IsY Y v l :=
  h.grownF hg fun g e => by
    obtain ⟨A, c, e1, h1, h2, h3, h4⟩ := h
    rcases List.eq_nil_or_concat l with rfl | ⟨_, _, rfl⟩
    · exact .inl rfl
    · exact .inr (away_own e1 h4 (by simp) (by rw [ys_len]) hr g e)
theorem OwnBs.ownr {b fl : Nat} {v : Value} {bs : List Bk} (h : OwnBs X b fl v bs) (hg : X.grownBy Y row) (hr : ∀ r, row = some r → ∃ o : Obj, X.heap[r]? = some o ∧ o.isCells = false) : OwnBs Y b fl v bs := by
  obtain ⟨es, h1, h2, h3, h4⟩ := h
  refine ⟨es, h1, fun e he => ⟨(h2 e he).1.ownr hg hr, (h2 e he).2.ownr hg hr⟩, h3, h4.kept hg ?_⟩
  rcases h4.2 with ⟨rfl, _⟩ | ⟨g, cap, cur, rfl, _, hh, _⟩
  · exact .inl rfl
  · right
    intro e
    obtain ⟨o, ho, hc⟩ := hr g (by rw [← e]; rfl)
    rw [hh] at ho; cases ho; cases hc
theorem OfI.own {k m o : Int} {Z : Nat} {A : Option Addr} {c : Nat} {l : List Int} {g x b : Nat} {ps : List Nat} (h : OfI k m o Z A c l g x b ps X) (hg : X.grownBy Y row) (hr : ∀ r, row = some r → ∃ o : Obj, X.heap[r]? = some o ∧ o.isCells = false) : OfI k m o Z A c l g x b ps Y := by
  obtain ⟨⟨v, h1, h2⟩, h3, h4, h5, h6, h7⟩ := h
  exact ⟨⟨v, blk_own h1 hg hr, h2.ownr hg hr⟩, h3, blk_own h4 hg hr, blk_own h5 hg hr, blk_own h6 hg hr, blk_own h7 hg hr⟩
theorem OfX.own {k m o : Int} {Z : Nat} {l : List Int} {g : Nat} {ps : List Nat} (h : OfX k m o Z l g ps X) (hg : X.grownBy Y row) (hr : ∀ r, row = some r → ∃ o : Obj, X.heap[r]? = some o ∧ o.isCells = false) : OfX k m o Z l g ps Y :=
  ⟨h.1, blk_own h.2.1 hg hr, blk_own h.2.2 hg hr⟩
end
set_option maxRecDepth 100000 in
set_option maxHeartbeats 4000000 in
theorem of_main (k m o : Int) (Z : Nat) (A : Option Addr) (c : Nat) (l : List Int) (w : World) (h : IsI w (.slice A l.length c) l) (hmay : mayB k Z m o = true) (z1 : 1 ≤ Z) (z2 : Z ≤ 4096) (hl : l.length ≤ 4096) (hi : ∀ x ∈ l, I64 x) :
    CallsIn Fence.wide 9 Tryz.prog 19 #[.agg #[.int .i64 k, .int .i64 Z, .int .i64 m, .int .i64 o], .slice A l.length c] w fun e w' => ∃ x, e = .returned (.tuple #[.agg #[.int .i64 (ofS k Z m o l).1, .int .i64 (ofS k Z m o l).2.1, .int .i64 (ofS k Z m o l).2.2.1, .int .i64 (ofS k Z m o l).2.2.2.1, .int .i64 (ofS k Z m o l).2.2.2.2.1, x], .int .i64 (ofE k Z m o l)]) ∧ OwnBs w' w.heap.size w.heap.size x (ofS k Z m o l).2.2.2.2.2 ∧ Below w.heap.size w w' := by
  obtain ⟨i0, hi0, hz0, hz1, hz2⟩ := info_parts info_blk
  have hM := fun n w => (callsIn_wide (n := n)).2 (tmay_any k Z m o w)
  rw [hmay] at hM
  have hl1 : decide ((4096 : Int) < (l.length : Int)) = false := decide_eq_false (by omega)
  have hl2 : decide (4096 < l.length) = false := decide_eq_false (by omega)
  obtain ⟨W0, hW, hK, hL, hS, hE, hB⟩ := box4 w 23 34 26 36 #[.int .i64 k, .int .i64 Z, .int .i64 m, .int .i64 o] #[.slice A l.length c] #[.int .i64 0, .int .i64 0, .int .i64 0, .int .i64 0, .int .i64 0, .slice none 0 0] #[.int .i64 0]
  have hW' := Lib.hid hW
  clear hW
  have k0 := hK.cell 0
  have k1 := hK.cell 1
  have k2 := hK.cell 2
  have k3 := hK.cell 3
  have l0 := hL.cell 0
  refine callsIn_of_wp_marks Tryz.func19 rfl trivial ?_ rfl
  simp only [Tryz.ntmps19, List.size_toArray, List.length_cons, List.length_nil, Nat.reduceAdd, Nat.reduceSub, Array.replicate_succ, Array.replicate_zero, List.push_toArray, List.append_toArray, List.nil_append, List.cons_append]
  gi_wp2_with (refine ⟨trivial, ?_⟩; gi_at_call 9; rw [← hW'.out]; refine (hM _ _).mono ?_; rintro e w1 ⟨rfl, b1⟩; have hK1 := hK.below b1 hK.lt; have hL1 := hL.below b1 hL.lt; have y0 := hK1.cell 0; have y1 := hK1.cell 1; have y2 := hK1.cell 2; have y3 := hK1.cell 3; have y4 := hL1.cell 0; have hK2 := hK1.alloc (.cells #[.int .i64 k, .int .i64 Z, .int .i64 m, .int .i64 o, .int .i64 l.length, .slice none 0 0] 26); have hL2 := hL1.alloc (.cells #[.int .i64 k, .int .i64 Z, .int .i64 m, .int .i64 o, .int .i64 l.length, .slice none 0 0] 26); have x1 := hK2.cell 1; have x4 := hL2.cell 0)
  refine ⟨trivial, ?_⟩
  refine (chunk_in _ _ _ _ _ z1 _).mono ?_
  rintro e w' ⟨rfl, rfl⟩
  gi_wp2_with fail
  have hR3 := (((Blk.new w1 26 #[.int .i64 k, .int .i64 Z, .int .i64 m, .int .i64 o, .int .i64 l.length, .slice none 0 0]).alloc (.cells #[.slice A l.length c] 34)).alloc (.cells #[.int .i64 Z] 3))
  have hK3 := (hK2.alloc (.cells #[.slice A l.length c] 34)).alloc (.cells #[.int .i64 Z] 3)
  have hL3 := (hL2.alloc (.cells #[.slice A l.length c] 34)).alloc (.cells #[.int .i64 Z] 3)
  have hS3 := (((hS.below b1 hS.lt).alloc (.cells #[.int .i64 k, .int .i64 Z, .int .i64 m, .int .i64 o, .int .i64 l.length, .slice none 0 0] 26)).alloc (.cells #[.slice A l.length c] 34)).alloc (.cells #[.int .i64 Z] 3)
  have hE3 := (((hE.below b1 hE.lt).alloc (.cells #[.int .i64 k, .int .i64 Z, .int .i64 m, .int .i64 o, .int .i64 l.length, .slice none 0 0] 26)).alloc (.cells #[.slice A l.length c] 34)).alloc (.cells #[.int .i64 Z] 3)
  have hC3 := (Blk.new (w1.alloc (.cells #[.int .i64 k, .int .i64 Z, .int .i64 m, .int .i64 o, .int .i64 l.length, .slice none 0 0] 26)) 34 #[.slice A l.length c]).alloc (.cells #[.int .i64 Z] 3)
  have hD3 := Blk.new ((w1.alloc (.cells #[.int .i64 k, .int .i64 Z, .int .i64 m, .int .i64 o, .int .i64 l.length, .slice none 0 0] 26)).alloc (.cells #[.slice A l.length c] 34)) 3 #[.int .i64 Z]
  simp only [World.size_alloc] at hC3 hD3
  have hB1 := hB.trans (b1.mono hB.size)
  have hB3 := ((hB1.alloc hB1.size (.cells #[.int .i64 k, .int .i64 Z, .int .i64 m, .int .i64 o, .int .i64 l.length, .slice none 0 0] 26)).alloc (by have := hB1.size; simp; omega) (.cells #[.slice A l.length c] 34)).alloc (by have := hB1.size; simp; omega) (.cells #[.int .i64 Z] 3)
  have hwX : w.heap.size + 1 + 1 + 1 < w1.heap.size := by have := hE.lt; have := b1.size; omega
  obtain ⟨W1, hW1⟩ : ∃ W1, W1 = ((w1.alloc (.cells #[.int .i64 k, .int .i64 Z, .int .i64 m, .int .i64 o, .int .i64 l.length, .slice none 0 0] 26)).alloc (.cells #[.slice A l.length c] 34)).alloc (.cells #[.int .i64 Z] 3) := ⟨_, rfl⟩
  have hsz : W1.heap.size = w1.heap.size + 1 + 1 + 1 := by rw [hW1]; simp
  rw [← hW1] at hR3 hK3 hL3 hS3 hE3 hC3 hD3 hB3 ⊢
  clear hW1 x1 x4 y0 y1 y2 y3 y4 k0 k1 k2 k3 l0 hK2 hL2 hK1 hL1 hK hL hS hE hB hB1 hW' hM b1
  have hcc := hC3.cell 0
  have hcd := hD3.cell 0
  generalize w1.heap.size = X at *
  refine wpIn_rangeFunc_ownG (n := 9) rfl (by omega) (gf := 44) (lb := #[.pointer (some ⟨X + 1, 0, none⟩), .pointer (some ⟨X + 1 + 1, 0, none⟩)]) rfl trivial (enters_of Tryz.func44 (by kernel_rfl) rfl)
    (chunk_stops (X + 1) w.heap.size c Z z1 z2 A l hl w h W1 (by omega) hcc hcd) KR.trans (KR.put (by omega) (by omega)) (Below.refl _ _) (fun _ => rfl)
    (fun pre W => OfI k m o Z A c l w.heap.size X W1.heap.size (pre.map (·.1)) W ∧ (Below w.heap.size w W ∧ W1.heap.size ≤ W.heap.size))
    (fun cd pre W => (cd = .ret ∧ OfX k m o Z l w.heap.size (pre.map (·.1)) W) ∧ Below w.heap.size w W)
    ?oI ?oX ?st ?a1 ?assign ?body ?done ?stop
  case assign =>
    intro lr x W K hK
    gi_wp2
    exact hK
  case oI => exact OwnFrom.and (Own.from (show Own (fun (s : List (Prt Z l)) (W : World) => OfI k m o Z A c l w.heap.size X W1.heap.size (s.map (·.1)) W) from fun s X Y row hs hg hr => OfI.own hs hg hr) _) (OwnFrom.and (ownFrom_below (by omega) (by omega)) (Own.from (show Own (fun (_ : List (Prt Z l)) (W : World) => W1.heap.size ≤ W.heap.size) from fun s X Y row hs hg hr => Nat.le_trans hs hg.size) _))
  case oX => exact fun cd => OwnFrom.and (Own.from (show Own (fun (s : List (Prt Z l)) (W : World) => cd = .ret ∧ OfX k m o Z l w.heap.size (s.map (·.1)) W) from fun s X Y row hs hg hr => ⟨hs.1, OfX.own hs.2 hg hr⟩) _) (ownFrom_below (by omega) (by omega))
  case st => exact ⟨⟨⟨_, hR3, OwnBs.nil _ _ _⟩, fun _ h => (nomatch h), hK3, hL3, hS3, hE3⟩, hB3, Nat.le_refl _⟩
  case body =>
    rintro lr pre x W ⟨⟨⟨v, hR, hown⟩, hodd, hK, hL, hS, hE⟩, hBel, hWs⟩ hlt
    have hp := (h.below hBel).part x.2
    have hpi : ∀ y ∈ partZ Z l x.1, I64 y := fun y hy => hi y (partZ_mem hy)
    have hpl : (partZ Z l x.1).length ≤ 4096 := by have := partZ_len Z l x.1; omega
    obtain ⟨xi, hxi⟩ : ∃ y, y = x.1 := ⟨_, rfl⟩
    obtain ⟨ps, hps⟩ : ∃ y, y = pre.map (fun y : Prt Z l => y.1) := ⟨_, rfl⟩
    have hnew : (pre ++ [x]).map (fun y : Prt Z l => y.1) = ps ++ [xi] := by rw [List.map_append, ← hps, hxi]; rfl
    have hplen : ps.length ≤ 4096 := by have := partN_le (z := Z) (n := l.length) z1; rw [hps, List.length_map]; omega
    have HNEW := Lib.hid hnew
    rw [← hps] at hown hodd
    obtain ⟨p, hpe⟩ : ∃ p, p = partZ Z l xi := ⟨_, rfl⟩
    obtain ⟨pv, hpv⟩ : ∃ pv, pv = partV A Z l.length x.1 := ⟨_, rfl⟩
    rw [← hxi, ← hpe] at hp hpi hpl
    rw [hxi, ← hpv] at hp
    have HPE := Lib.hid hpe
    have HPV := Lib.hid hpv
    try dsimp only
    rw [← hpv]
    clear hpe hpv hnew hlt hps hxi
    have hG := fun w h => tgreat_any pv p w h
    have hSt := fun w => tstays_any k Z m o l.length (greatW p) w
    obtain ⟨kk, hkk, hk4⟩ : ∃ kk, kk = kindOf k m o l.length p ∧ 0 ≤ kk ∧ kk ≤ 4 := ⟨_, rfl, by have := mayB_iff.1 hmay; rcases kindOf_or (k := k) (m := m) (o := o) l.length p with ⟨e, _⟩ | ⟨e, _⟩ <;> rw [e] <;> omega⟩
    have hks : (kk = 4 ∧ staysB m o l.length (greatW p) = true) ∨ (kk = k ∧ staysB m o l.length (greatW p) = false) := by rw [hkk]; exact kindOf_or _ _
    have HKK := Lib.hid hkk
    clear hkk
    generalize staysB m o (l.length : Int) (greatW p) = sb at *
    generalize greatW p = gp at *
    have k0 := hK.cell 0
    have k1 := hK.cell 1
    have k2 := hK.cell 2
    have k3 := hK.cell 3
    have l0 := hL.cell 0
    have hmx : Tryz.prog.follows .mixedOrders = true := by kernel_rfl
    have hGW := (hG W.drew (hp.below (bdrew W))).mono (R' := fun e w' => e = .returned (.int .i64 gp) ∧ w' = W.drew) (fun _ _ ⟨h, h'⟩ => ⟨h, h'.symm⟩)
    have HGW := Lib.hid hGW
    have HKS := Lib.hid hks
    have HODD := Lib.hid hodd
    clear hG hGW hks hodd
    gi_wp2_with fail
    refine wpInR_region_still_tail 5 hmx (by kernel_rfl) (by kernel_rfl) ?_
    simp only [List.take_succ_cons, List.take_zero, List.drop_succ_cons, List.drop_zero]
    iterate 4 still_step
    still_call HGW.out
    refine wpStill_nil ?_
    gi_wp2_with fail
    refine ⟨trivial, ?_⟩
    refine (CallsIn.inRound lr (callsIn_wide.2 (hSt _))).mono ?_
    rintro e w2 ⟨rfl, b2⟩
    have B2 : Below W.heap.size W w2 := bstep (bdrew W) b2
    have hp2 := hp.below B2
    clear hSt b2 k0 k1 k2 k3 l0 HGW
    rcases HKS.out with ⟨e4, rfl⟩ | ⟨e4, rfl⟩
    · have hP1 := fun w h (ho : oddP kk p = true) => pack_bad kk pv p w h hk4 ho
      have hP0 := fun w h (ho : oddP kk p = false) => pack_good kk pv p w h hk4 hpl hpi ho
      rw [e4] at hP1 hP0 hk4
      have HKK' := Lib.hid (HKK.out.symm.trans e4)
      clear HKK HKS e4 hk4 kk
      cases ho : oddP 4 p
      · have hP := fun w h => hP0 w h ho
        have hofb : Hid (bkP k m o Z l xi = bkOf 4 p) := Lib.hid (by unfold bkP; rw [← HPE.out, HKK'.out])
        have hofo : Hid (oddPi k m o Z l xi = false) := Lib.hid (by unfold oddPi; rw [← HPE.out, HKK'.out, ho])
        clear hP0 hP1 ho
        obtain ⟨⟨bk, bs, bc, bw⟩, hbb⟩ : ∃ b : Bk, b = bkOf 4 p := ⟨_, rfl⟩
        rw [← hbb] at hP hofb
        clear hbb
        gi_wp2_with fail
        refine ⟨trivial, ?_⟩
        refine (CallsIn.inRound lr (callsIn_wide.2 (hP _ hp2))).mono ?_
        rintro e w3 ⟨b, rfl, ⟨a1, a2, rfl, ha1, ha2⟩, b3, hfr⟩
        obtain ⟨A1, C1, rfl, _, _⟩ := id ha1.form
        obtain ⟨A2, C2, rfl, _, _⟩ := id ha2.form
        obtain ⟨_, _, _, _, hfe, hf1, hf2⟩ := hfr
        obtain ⟨rfl, rfl, rfl, rfl⟩ : _ ∧ _ ∧ _ ∧ _ := by simpa using hfe
        clear hfe hP
        have B3 := bstep B2 b3
        have hne : ∀ g, v.ownBlock = some g → g < w2.heap.size := fun g e => by
          obtain ⟨es, _, _, _, hr⟩ := hown
          exact Nat.lt_of_lt_of_le (hr.lt g e).2 B2.size
        have B4 : Below W.heap.size W (w3.alloc (.cells #[.int .i64 bk, .int .i64 bs, .slice A1 bc.length C1, .slice A2 bw.length C2] 43)) := balloc B3 _
        have hR4 := hR.below B4 hR.lt
        have hR5 := hR4.alloc (.cells #[.int .i64 bk, .int .i64 bs, .slice A1 bc.length C1, .slice A2 bw.length C2] 43)
        have hrow4 := hown.below B4
        have ha1' := ha1.below (balloc (Below.refl _ w3) (.cells #[.int .i64 bk, .int .i64 bs, .slice A1 bc.length C1, .slice A2 bw.length C2] 43))
        have ha2' := ha2.below (balloc (Below.refl _ w3) (.cells #[.int .i64 bk, .int .i64 bs, .slice A1 bc.length C1, .slice A2 bw.length C2] 43))
        have c5 := hR4.cell 5
        obtain ⟨es, hes, hok, haw, hrow⟩ := hrow4
        have hlen : es.length ≤ 4096 := by rw [← List.length_map (f := fun e : Eb => e.1), hes, List.length_map]; exact hplen
        have hbase : W1.heap.size ≤ (w3.alloc (.cells #[.int .i64 bk, .int .i64 bs, .slice A1 bc.length C1, .slice A2 bw.length C2] 43)).heap.size := Nat.le_trans hWs B4.size
        have hone := flatB_one [((bk, bs, bc, bw), (.slice A1 bc.length C1 : Value), (.slice A2 bw.length C2 : Value))] (w := w3) (fun e he => by
          obtain rfl := List.mem_singleton.1 he
          exact ⟨ha1, ha2⟩)
        have hlc := lit4_cells (w3.alloc (.cells #[.int .i64 bk, .int .i64 bs, .slice A1 bc.length C1, .slice A2 bw.length C2] 43)) 43 (.int .i64 bk) (.int .i64 bs) (.slice A1 bc.length C1) (.slice A2 bw.length C2)
        rw [World.size_alloc] at hlc
        have hwf := wide_fn 35
        gi_wp2_with (gi_at_builtin; go_must (refine wpListIn_append_own_at _ rfl (.tmp 49) (.tmp 51) _ rfl W1.heap.size 43 i0 _ 4 64 Tryz.underlying24 hi0 hz0 hz1 hz2 rfl (by omega) _ _ (flatB es) rfl (hrow.alloc _) ⟨w3.heap.size + 1, 0, none⟩ 1 1 (flatB [((bk, bs, bc, bw), (.slice A1 bc.length C1 : Value), (.slice A2 bw.length C2 : Value))]) rfl rfl hlc hone (by unfold maxLen; omega) (by omega) (by rw [World.size_alloc]; exact Nat.le_succ_of_le hbase) ?_; intro v' w6 hown' hgrow _ hat; obtain ⟨A7, C7, rfl, _, _⟩ := own4_form hown'; have hR6 := hR5.grown hgrow (fun e => own4_typed (hrow.alloc _) hR5 (by decide) e.symm); have c6 := hR6.cell 5; have f6 := hR6.frozen 5))
        obtain ⟨hbl, hko⟩ := below_grown4 hrow hbase hgrow
        have hwX : w.heap.size + 1 + 1 + 1 < X := by assumption
        have hX1 : X < W1.heap.size := by omega
        have hpush := OwnBs.push (fl := W1.heap.size) (ns := [((bk, bs, bc, bw), (.slice A1 bc.length C1 : Value), (.slice A2 bw.length C2 : Value))]) (hok.below (balloc (Below.refl _ _) (.cells #[.int .i64 bk, .int .i64 bs, .slice A1 bc.length C1, .slice A2 bw.length C2] 43))) haw
          (fun e he => by obtain rfl := List.mem_singleton.1 he; exact ⟨ha1'.below (balloc (Below.refl _ _) _), ha2'.below (balloc (Below.refl _ _) _)⟩)
          (fun e he => by
            obtain rfl := List.mem_singleton.1 he
            exact ⟨fun g eg => ⟨.inr (hf1.ne (hne g eg)), .inr (hf2.ne (hne g eg))⟩, hf1.more (Nat.le_trans hWs B2.size), hf2.more (Nat.le_trans hWs B2.size)⟩) rfl hown' hgrow hat
        rw [hes] at hpush
        have hOB := hpush.set (i := 5) hX1 hX1 (.slice A7 (es.length + 1) C7)
        have hR7 := hR6.set_ 5 (.slice A7 (es.length + 1) C7)
        have hK7 := ((hK.below B4 hK.lt).below hbl (show w.heap.size < W1.heap.size by omega)).far (p := ⟨X, 5, none⟩) (show w.heap.size ≠ X by omega) (.slice A7 (es.length + 1) C7)
        have hL7 := ((hL.below B4 hL.lt).below hbl (show w.heap.size + 1 < W1.heap.size by omega)).far (p := ⟨X, 5, none⟩) (show w.heap.size + 1 ≠ X by omega) (.slice A7 (es.length + 1) C7)
        have hS7 := ((hS.below B4 hS.lt).below hbl (show w.heap.size + 1 + 1 < W1.heap.size by omega)).far (p := ⟨X, 5, none⟩) (show w.heap.size + 1 + 1 ≠ X by omega) (.slice A7 (es.length + 1) C7)
        have hE7 := ((hE.below B4 hE.lt).below hbl (show w.heap.size + 1 + 1 + 1 < W1.heap.size by omega)).far (p := ⟨X, 5, none⟩) (show w.heap.size + 1 + 1 + 1 ≠ X by omega) (.slice A7 (es.length + 1) C7)
        refine ⟨?_, ?_, ?_⟩
        · refine KeepsOthers.from (KeepsOthers.trans (KeepsOthers.trans ⟨B4.size, fun k o hk ho => ?_⟩ ⟨hbl.size, hko⟩) (KeepsOthers.setCell _ _ _)) _
          exact (B4.block k (Array.getElem?_eq_some_iff.1 hk).1).trans hk
        · exact ((KR.of_below (B4.mono hWs) (by omega) (by omega)).trans (KR.of_below hbl (by omega) (by omega))).setAt (by omega) (.inl (by omega)) _
        · refine ⟨⟨⟨_, by simpa using hR7, ?_⟩, ?_, hK7, hL7, hS7, hE7⟩, ?_, ?_⟩
          · rw [HNEW.out, List.map_append]
            have e1 : [xi].map (bkP k m o Z l) = [((bk, bs, bc, bw) : Bk)] := by simp [hofb.out]
            rw [e1]; exact hOB
          · rw [HNEW.out]
            intro i hi'
            rcases List.mem_append.1 hi' with h1 | h1
            · exact HODD.out i h1
            · rw [List.mem_singleton.1 h1]; exact hofo.out
          · exact ((hBel.trans (B4.mono hBel.size)).trans (hbl.mono (by omega))).setCell (p := ⟨X, 5, none⟩) (by show w.heap.size ≤ X; omega) _
          · simp [World.setCell]; exact Nat.le_trans hbase hbl.size
      · have hP := fun w h => hP1 w h ho
        have hofo : Hid (oddPi k m o Z l xi = true) := Lib.hid (by unfold oddPi; rw [← HPE.out, HKK'.out, ho])
        clear hP0 hP1 ho
        gi_wp2_with fail
        refine ⟨trivial, ?_⟩
        refine (CallsIn.inRound lr (callsIn_wide.2 (hP _ hp2))).mono ?_
        rintro e w3 ⟨b, rfl, ⟨a1, a2, rfl, ha1, ha2⟩, b3⟩
        obtain ⟨A1, C1, rfl, _, _⟩ := id ha1.form
        obtain ⟨A2, C2, rfl, _, _⟩ := id ha2.form
        have B3 := bstep B2 b3
        have B4 : Below W.heap.size W (w3.alloc (.cells #[.int .i64 0, .int .i64 0, .slice A1 0 C1, .slice A2 0 C2] 43)) := balloc B3 _
        have hS4 := hS.below B4 hS.lt
        have hE4 := hE.below B4 hE.lt
        have s0 := hS4.cell 0
        have s1 := hS4.cell 1
        have s2 := hS4.cell 2
        have s3 := hS4.cell 3
        have s4 := hS4.cell 4
        have s5 := hS4.cell 5
        have f0 := hS4.frozen 0
        have f1 := hS4.frozen 1
        have f2 := hS4.frozen 2
        have f3 := hS4.frozen 3
        have f4 := hS4.frozen 4
        have f5 := hS4.frozen 5
        have t0 := hE4.cell 0
        have t1 := hE4.frozen 0
        gi_wp2
        have hS8 := ((((((hS4.set_ 0 (.int .i64 0)).set_ 1 (.int .i64 0)).set_ 2 (.int .i64 0)).set_ 3 (.int .i64 0)).set_ 4 (.int .i64 0)).set_ 5 (.slice none 0 0)).far (p := ⟨w.heap.size + 1 + 1 + 1, 0, none⟩) (show w.heap.size + 1 + 1 ≠ w.heap.size + 1 + 1 + 1 by omega) (.int .i64 1)
        have far := fun (w9 : World) (i : Nat) (u : Value) (h9 : Blk w9 (w.heap.size + 1 + 1 + 1) 36 #[.int .i64 0]) => h9.far (p := ⟨w.heap.size + 1 + 1, i, none⟩) (show w.heap.size + 1 + 1 + 1 ≠ w.heap.size + 1 + 1 by omega) u
        have hE8 := (far _ 5 (.slice none 0 0) (far _ 4 (.int .i64 0) (far _ 3 (.int .i64 0) (far _ 2 (.int .i64 0) (far _ 1 (.int .i64 0) (far _ 0 (.int .i64 0) hE4)))))).set_ 0 (.int .i64 1)
        refine ⟨?_, ⟨rfl, ⟨xi, ?_, hofo.out⟩, by simpa using hS8, by simpa using hE8⟩, ?_⟩
        · refine KeepsOthers.from (KeepsOthers.trans (B := w3.alloc (.cells #[.int .i64 0, .int .i64 0, .slice A1 0 C1, .slice A2 0 C2] 43)) ⟨B4.size, fun k o hk ho => (B4.block k (Array.getElem?_eq_some_iff.1 hk).1).trans hk⟩ ?_) _
          exact (((((((KeepsOthers.setCell _ _ _).trans (KeepsOthers.setCell _ _ _)).trans (KeepsOthers.setCell _ _ _)).trans (KeepsOthers.setCell _ _ _)).trans (KeepsOthers.setCell _ _ _)).trans (KeepsOthers.setCell _ _ _)).trans (KeepsOthers.setCell _ _ _))
        · rw [HNEW.out]; simp
        · exact bset (bset (bset (bset (bset (bset (bset (hBel.trans (B4.mono hBel.size)) (by omega) _) (by omega) _) (by omega) _) (by omega) _) (by omega) _) (by omega) _) (by omega) _
    · have hP1 := fun w h (ho : oddP kk p = true) => pack_bad kk pv p w h hk4 ho
      have hP0 := fun w h (ho : oddP kk p = false) => pack_good kk pv p w h hk4 hpl hpi ho
      rw [e4] at hP1 hP0 hk4
      have HKK' := Lib.hid (HKK.out.symm.trans e4)
      clear HKK HKS e4 hk4 kk
      cases ho : oddP k p
      · have hP := fun w h => hP0 w h ho
        have hofb : Hid (bkP k m o Z l xi = bkOf k p) := Lib.hid (by unfold bkP; rw [← HPE.out, HKK'.out])
        have hofo : Hid (oddPi k m o Z l xi = false) := Lib.hid (by unfold oddPi; rw [← HPE.out, HKK'.out, ho])
        clear hP0 hP1 ho
        obtain ⟨⟨bk, bs, bc, bw⟩, hbb⟩ : ∃ b : Bk, b = bkOf k p := ⟨_, rfl⟩
        rw [← hbb] at hP hofb
        clear hbb
        gi_wp2_with fail
        refine ⟨trivial, ?_⟩
        refine (CallsIn.inRound lr (callsIn_wide.2 (hP _ hp2))).mono ?_
        rintro e w3 ⟨b, rfl, ⟨a1, a2, rfl, ha1, ha2⟩, b3, hfr⟩
        obtain ⟨A1, C1, rfl, _, _⟩ := id ha1.form
        obtain ⟨A2, C2, rfl, _, _⟩ := id ha2.form
        obtain ⟨_, _, _, _, hfe, hf1, hf2⟩ := hfr
        obtain ⟨rfl, rfl, rfl, rfl⟩ : _ ∧ _ ∧ _ ∧ _ := by simpa using hfe
        clear hfe hP
        have B3 := bstep B2 b3
        have hne : ∀ g, v.ownBlock = some g → g < w2.heap.size := fun g e => by
          obtain ⟨es, _, _, _, hr⟩ := hown
          exact Nat.lt_of_lt_of_le (hr.lt g e).2 B2.size
        have B4 : Below W.heap.size W (w3.alloc (.cells #[.int .i64 bk, .int .i64 bs, .slice A1 bc.length C1, .slice A2 bw.length C2] 43)) := balloc B3 _
        have hR4 := hR.below B4 hR.lt
        have hR5 := hR4.alloc (.cells #[.int .i64 bk, .int .i64 bs, .slice A1 bc.length C1, .slice A2 bw.length C2] 43)
        have hrow4 := hown.below B4
        have ha1' := ha1.below (balloc (Below.refl _ w3) (.cells #[.int .i64 bk, .int .i64 bs, .slice A1 bc.length C1, .slice A2 bw.length C2] 43))
        have ha2' := ha2.below (balloc (Below.refl _ w3) (.cells #[.int .i64 bk, .int .i64 bs, .slice A1 bc.length C1, .slice A2 bw.length C2] 43))
        have c5 := hR4.cell 5
        obtain ⟨es, hes, hok, haw, hrow⟩ := hrow4
        have hlen : es.length ≤ 4096 := by rw [← List.length_map (f := fun e : Eb => e.1), hes, List.length_map]; exact hplen
        have hbase : W1.heap.size ≤ (w3.alloc (.cells #[.int .i64 bk, .int .i64 bs, .slice A1 bc.length C1, .slice A2 bw.length C2] 43)).heap.size := Nat.le_trans hWs B4.size
        have hone := flatB_one [((bk, bs, bc, bw), (.slice A1 bc.length C1 : Value), (.slice A2 bw.length C2 : Value))] (w := w3) (fun e he => by
          obtain rfl := List.mem_singleton.1 he
          exact ⟨ha1, ha2⟩)
        have hlc := lit4_cells (w3.alloc (.cells #[.int .i64 bk, .int .i64 bs, .slice A1 bc.length C1, .slice A2 bw.length C2] 43)) 43 (.int .i64 bk) (.int .i64 bs) (.slice A1 bc.length C1) (.slice A2 bw.length C2)
        rw [World.size_alloc] at hlc
        have hwf := wide_fn 35
        gi_wp2_with (gi_at_builtin; go_must (refine wpListIn_append_own_at _ rfl (.tmp 49) (.tmp 51) _ rfl W1.heap.size 43 i0 _ 4 64 Tryz.underlying24 hi0 hz0 hz1 hz2 rfl (by omega) _ _ (flatB es) rfl (hrow.alloc _) ⟨w3.heap.size + 1, 0, none⟩ 1 1 (flatB [((bk, bs, bc, bw), (.slice A1 bc.length C1 : Value), (.slice A2 bw.length C2 : Value))]) rfl rfl hlc hone (by unfold maxLen; omega) (by omega) (by rw [World.size_alloc]; exact Nat.le_succ_of_le hbase) ?_; intro v' w6 hown' hgrow _ hat; obtain ⟨A7, C7, rfl, _, _⟩ := own4_form hown'; have hR6 := hR5.grown hgrow (fun e => own4_typed (hrow.alloc _) hR5 (by decide) e.symm); have c6 := hR6.cell 5; have f6 := hR6.frozen 5))
        obtain ⟨hbl, hko⟩ := below_grown4 hrow hbase hgrow
        have hwX : w.heap.size + 1 + 1 + 1 < X := by assumption
        have hX1 : X < W1.heap.size := by omega
        have hpush := OwnBs.push (fl := W1.heap.size) (ns := [((bk, bs, bc, bw), (.slice A1 bc.length C1 : Value), (.slice A2 bw.length C2 : Value))]) (hok.below (balloc (Below.refl _ _) (.cells #[.int .i64 bk, .int .i64 bs, .slice A1 bc.length C1, .slice A2 bw.length C2] 43))) haw
          (fun e he => by obtain rfl := List.mem_singleton.1 he; exact ⟨ha1'.below (balloc (Below.refl _ _) _), ha2'.below (balloc (Below.refl _ _) _)⟩)
          (fun e he => by
            obtain rfl := List.mem_singleton.1 he
            exact ⟨fun g eg => ⟨.inr (hf1.ne (hne g eg)), .inr (hf2.ne (hne g eg))⟩, hf1.more (Nat.le_trans hWs B2.size), hf2.more (Nat.le_trans hWs B2.size)⟩) rfl hown' hgrow hat
        rw [hes] at hpush
        have hOB := hpush.set (i := 5) hX1 hX1 (.slice A7 (es.length + 1) C7)
        have hR7 := hR6.set_ 5 (.slice A7 (es.length + 1) C7)
        have hK7 := ((hK.below B4 hK.lt).below hbl (show w.heap.size < W1.heap.size by omega)).far (p := ⟨X, 5, none⟩) (show w.heap.size ≠ X by omega) (.slice A7 (es.length + 1) C7)
        have hL7 := ((hL.below B4 hL.lt).below hbl (show w.heap.size + 1 < W1.heap.size by omega)).far (p := ⟨X, 5, none⟩) (show w.heap.size + 1 ≠ X by omega) (.slice A7 (es.length + 1) C7)
        have hS7 := ((hS.below B4 hS.lt).below hbl (show w.heap.size + 1 + 1 < W1.heap.size by omega)).far (p := ⟨X, 5, none⟩) (show w.heap.size + 1 + 1 ≠ X by omega) (.slice A7 (es.length + 1) C7)
        have hE7 := ((hE.below B4 hE.lt).below hbl (show w.heap.size + 1 + 1 + 1 < W1.heap.size by omega)).far (p := ⟨X, 5, none⟩) (show w.heap.size + 1 + 1 + 1 ≠ X by omega) (.slice A7 (es.length + 1) C7)
        refine ⟨?_, ?_, ?_⟩
        · refine KeepsOthers.from (KeepsOthers.trans (KeepsOthers.trans ⟨B4.size, fun k o hk ho => ?_⟩ ⟨hbl.size, hko⟩) (KeepsOthers.setCell _ _ _)) _
          exact (B4.block k (Array.getElem?_eq_some_iff.1 hk).1).trans hk
        · exact ((KR.of_below (B4.mono hWs) (by omega) (by omega)).trans (KR.of_below hbl (by omega) (by omega))).setAt (by omega) (.inl (by omega)) _
        · refine ⟨⟨⟨_, by simpa using hR7, ?_⟩, ?_, hK7, hL7, hS7, hE7⟩, ?_, ?_⟩
          · rw [HNEW.out, List.map_append]
            have e1 : [xi].map (bkP k m o Z l) = [((bk, bs, bc, bw) : Bk)] := by simp [hofb.out]
            rw [e1]; exact hOB
          · rw [HNEW.out]
            intro i hi'
            rcases List.mem_append.1 hi' with h1 | h1
            · exact HODD.out i h1
            · rw [List.mem_singleton.1 h1]; exact hofo.out
          · exact ((hBel.trans (B4.mono hBel.size)).trans (hbl.mono (by omega))).setCell (p := ⟨X, 5, none⟩) (by show w.heap.size ≤ X; omega) _
          · simp [World.setCell]; exact Nat.le_trans hbase hbl.size
      · have hP := fun w h => hP1 w h ho
        have hofo : Hid (oddPi k m o Z l xi = true) := Lib.hid (by unfold oddPi; rw [← HPE.out, HKK'.out, ho])
        clear hP0 hP1 ho
        gi_wp2_with fail
        refine ⟨trivial, ?_⟩
        refine (CallsIn.inRound lr (callsIn_wide.2 (hP _ hp2))).mono ?_
        rintro e w3 ⟨b, rfl, ⟨a1, a2, rfl, ha1, ha2⟩, b3⟩
        obtain ⟨A1, C1, rfl, _, _⟩ := id ha1.form
        obtain ⟨A2, C2, rfl, _, _⟩ := id ha2.form
        have B3 := bstep B2 b3
        have B4 : Below W.heap.size W (w3.alloc (.cells #[.int .i64 0, .int .i64 0, .slice A1 0 C1, .slice A2 0 C2] 43)) := balloc B3 _
        have hS4 := hS.below B4 hS.lt
        have hE4 := hE.below B4 hE.lt
        have s0 := hS4.cell 0
        have s1 := hS4.cell 1
        have s2 := hS4.cell 2
        have s3 := hS4.cell 3
        have s4 := hS4.cell 4
        have s5 := hS4.cell 5
        have f0 := hS4.frozen 0
        have f1 := hS4.frozen 1
        have f2 := hS4.frozen 2
        have f3 := hS4.frozen 3
        have f4 := hS4.frozen 4
        have f5 := hS4.frozen 5
        have t0 := hE4.cell 0
        have t1 := hE4.frozen 0
        gi_wp2
        have hS8 := ((((((hS4.set_ 0 (.int .i64 0)).set_ 1 (.int .i64 0)).set_ 2 (.int .i64 0)).set_ 3 (.int .i64 0)).set_ 4 (.int .i64 0)).set_ 5 (.slice none 0 0)).far (p := ⟨w.heap.size + 1 + 1 + 1, 0, none⟩) (show w.heap.size + 1 + 1 ≠ w.heap.size + 1 + 1 + 1 by omega) (.int .i64 1)
        have far := fun (w9 : World) (i : Nat) (u : Value) (h9 : Blk w9 (w.heap.size + 1 + 1 + 1) 36 #[.int .i64 0]) => h9.far (p := ⟨w.heap.size + 1 + 1, i, none⟩) (show w.heap.size + 1 + 1 + 1 ≠ w.heap.size + 1 + 1 by omega) u
        have hE8 := (far _ 5 (.slice none 0 0) (far _ 4 (.int .i64 0) (far _ 3 (.int .i64 0) (far _ 2 (.int .i64 0) (far _ 1 (.int .i64 0) (far _ 0 (.int .i64 0) hE4)))))).set_ 0 (.int .i64 1)
        refine ⟨?_, ⟨rfl, ⟨xi, ?_, hofo.out⟩, by simpa using hS8, by simpa using hE8⟩, ?_⟩
        · refine KeepsOthers.from (KeepsOthers.trans (B := w3.alloc (.cells #[.int .i64 0, .int .i64 0, .slice A1 0 C1, .slice A2 0 C2] 43)) ⟨B4.size, fun k o hk ho => (B4.block k (Array.getElem?_eq_some_iff.1 hk).1).trans hk⟩ ?_) _
          exact (((((((KeepsOthers.setCell _ _ _).trans (KeepsOthers.setCell _ _ _)).trans (KeepsOthers.setCell _ _ _)).trans (KeepsOthers.setCell _ _ _)).trans (KeepsOthers.setCell _ _ _)).trans (KeepsOthers.setCell _ _ _)).trans (KeepsOthers.setCell _ _ _))
        · rw [HNEW.out]; simp
        · exact bset (bset (bset (bset (bset (bset (bset (hBel.trans (B4.mono hBel.size)) (by omega) _) (by omega) _) (by omega) _) (by omega) _) (by omega) _) (by omega) _) (by omega) _
  case done =>
    rintro D ys W hD hys ⟨⟨⟨v, hR, hown⟩, hodd, hK, hL, hS, hE⟩, hBel, hWs⟩ hKD
    rw [hys] at hown hodd
    have hodd' : oddTo k Z m o l (partN Z l.length) = false := by
      unfold oddTo; rw [List.any_eq_false]
      intro i hi'
      have := hodd i hi'
      unfold oddPi at this
      rw [Int.toNat_natCast, this]; simp
    have he : ofE k Z m o l = 0 := ofE_ok hmay hl (by rw [Int.toNat_natCast]; exact hodd')
    have hbk : (List.range (partN Z l.length)).map (bkP k m o Z l) = bksTo k Z m o l (partN (Z : Int).toNat l.length) := by
      unfold bksTo; rw [Int.toNat_natCast]; rfl
    rw [hbk] at hown
    have hofs : ofS k Z m o l = (k, (Z : Int), m, o, (l.length : Int), bksTo k Z m o l (partN (Z : Int).toNat l.length)) := if_pos he
    have hib := hown.is
    obtain ⟨A9, C9, rfl, _, _⟩ := id hib.len
    generalize bksTo k (Z : Int) m o l (partN (Z : Int).toNat l.length) = bs at *
    have r0 := hR.cell 0
    have r1 := hR.cell 1
    have r2 := hR.cell 2
    have r3 := hR.cell 3
    have r4 := hR.cell 4
    have r5 := hR.cell 5
    have s0 := hS.cell 0
    have s1 := hS.cell 1
    have s2 := hS.cell 2
    have s3 := hS.cell 3
    have s4 := hS.cell 4
    have s5 := hS.cell 5
    have f0 := hS.frozen 0
    have f1 := hS.frozen 1
    have f2 := hS.frozen 2
    have f3 := hS.frozen 3
    have f4 := hS.frozen 4
    have f5 := hS.frozen 5
    have t0 := hE.cell 0
    have t1 := hE.frozen 0
    have HHH := Lib.hid (And.intro he (And.intro hys (And.intro hofs (And.intro hbk hodd))))
    clear he hys hofs hbk hodd hodd'
    gi_wp2
    have OB8 := ((((((hown.set (X := w.heap.size + 1 + 1) (i := 0) (by omega) (by omega) (.int .i64 k)).set (X := w.heap.size + 1 + 1) (i := 1) (by omega) (by omega) (.int .i64 Z)).set (X := w.heap.size + 1 + 1) (i := 2) (by omega) (by omega) (.int .i64 m)).set (X := w.heap.size + 1 + 1) (i := 3) (by omega) (by omega) (.int .i64 o)).set (X := w.heap.size + 1 + 1) (i := 4) (by omega) (by omega) (.int .i64 l.length)).set (X := w.heap.size + 1 + 1) (i := 5) (by omega) (by omega) (.slice A9 bs.length C9)).set (X := w.heap.size + 1 + 1 + 1) (i := 0) (by omega) (by omega) (.int .i64 0)
    have hS8 := ((((((hS.set_ 0 (.int .i64 k)).set_ 1 (.int .i64 Z)).set_ 2 (.int .i64 m)).set_ 3 (.int .i64 o)).set_ 4 (.int .i64 l.length)).set_ 5 (.slice A9 bs.length C9)).far (p := ⟨w.heap.size + 1 + 1 + 1, 0, none⟩) (show w.heap.size + 1 + 1 ≠ w.heap.size + 1 + 1 + 1 by omega) (.int .i64 0)
    have far := fun (w9 : World) (i : Nat) (u : Value) (h9 : Blk w9 (w.heap.size + 1 + 1 + 1) 36 #[.int .i64 0]) => h9.far (p := ⟨w.heap.size + 1 + 1, i, none⟩) (show w.heap.size + 1 + 1 + 1 ≠ w.heap.size + 1 + 1 by omega) u
    have hE8 := (far _ 5 (.slice A9 bs.length C9) (far _ 4 (.int .i64 l.length) (far _ 3 (.int .i64 o) (far _ 2 (.int .i64 m) (far _ 1 (.int .i64 Z) (far _ 0 (.int .i64 k) hE)))))).set_ 0 (.int .i64 0)
    have hB8 := bset (bset (bset (bset (bset (bset (bset hBel (show w.heap.size ≤ w.heap.size + 1 + 1 by omega) (i := 0) (.int .i64 k)) (show w.heap.size ≤ w.heap.size + 1 + 1 by omega) (i := 1) (.int .i64 Z)) (show w.heap.size ≤ w.heap.size + 1 + 1 by omega) (i := 2) (.int .i64 m)) (show w.heap.size ≤ w.heap.size + 1 + 1 by omega) (i := 3) (.int .i64 o)) (show w.heap.size ≤ w.heap.size + 1 + 1 by omega) (i := 4) (.int .i64 l.length)) (show w.heap.size ≤ w.heap.size + 1 + 1 by omega) (i := 5) (.slice A9 bs.length C9)) (show w.heap.size ≤ w.heap.size + 1 + 1 + 1 by omega) (i := 0) (.int .i64 0)
    have KO : KeepsOthers W _ := (((((((KeepsOthers.setCell W ⟨w.heap.size + 1 + 1, 0, none⟩ (.int .i64 k)).trans (KeepsOthers.setCell _ ⟨w.heap.size + 1 + 1, 1, none⟩ (.int .i64 Z))).trans (KeepsOthers.setCell _ ⟨w.heap.size + 1 + 1, 2, none⟩ (.int .i64 m))).trans (KeepsOthers.setCell _ ⟨w.heap.size + 1 + 1, 3, none⟩ (.int .i64 o))).trans (KeepsOthers.setCell _ ⟨w.heap.size + 1 + 1, 4, none⟩ (.int .i64 l.length))).trans (KeepsOthers.setCell _ ⟨w.heap.size + 1 + 1, 5, none⟩ (.slice A9 bs.length C9))).trans (KeepsOthers.setCell _ ⟨w.heap.size + 1 + 1 + 1, 0, none⟩ (.int .i64 0)))
    have hK' := KO.same D _ hKD rfl
    refine ⟨by simp, .inl ⟨_, _, rfl, run_takeDeferred hK', ?_⟩⟩
    have hS9 := blk_own hS8 (grownBy_putObj' _ D (.deferred none)) (fun r e => by cases e; exact ⟨_, hK', rfl⟩)
    have hE9 := blk_own hE8 (grownBy_putObj' _ D (.deferred none)) (fun r e => by cases e; exact ⟨_, hK', rfl⟩)
    have OB9 := OB8.ownr (grownBy_putObj' _ D (.deferred none)) (fun r e => by cases e; exact ⟨_, hK', rfl⟩)
    have q0 := hS9.cell 0
    have q1 := hS9.cell 1
    have q2 := hS9.cell 2
    have q3 := hS9.cell 3
    have q4 := hS9.cell 4
    have q5 := hS9.cell 5
    have q6 := hE9.cell 0
    refine ⟨.tuple #[.agg #[.int .i64 k, .int .i64 Z, .int .i64 m, .int .i64 o, .int .i64 l.length, .slice A9 bs.length C9], .int .i64 0], ?_, ⟨_, by rw [HHH.out.1, HHH.out.2.2.1], ?_, hB8.trans (belowK_b (w := w) (Nat.le_refl _) _ D _ (.deferred none) (by omega) hK' rfl rfl)⟩⟩
    · simp at q0 q1 q2 q3 q4 q5 q6
      simp [results, Tryz.f19, go_sem, q0, q1, q2, q3, q4, q5, q6]
    · rw [HHH.out.2.2.1]; exact OB9.lower (by omega) (by omega)
  case stop =>
    rintro D cd pre W hD hpre ⟨⟨rfl, ⟨i, hi', hodd⟩, hS, hE⟩, hBel⟩ hKD
    obtain ⟨q, hq, hpre⟩ := hpre
    have hodd' : oddTo k Z m o l (partN Z l.length) = true := by
      unfold oddTo
      rw [hpre] at hi'
      exact List.any_eq_true.2 ⟨i, List.mem_range.2 (by have := List.mem_range.1 hi'; omega), by rw [Int.toNat_natCast]; exact hodd⟩
    have he : ofE k Z m o l = 1 := by unfold ofE; rw [if_pos hmay, if_pos hl, Int.toNat_natCast, hodd']; rfl
    have hofs : ofS k Z m o l = (0, 0, 0, 0, 0, []) := if_neg (by rw [he]; decide)
    have s0 := hS.cell 0
    have s1 := hS.cell 1
    have s2 := hS.cell 2
    have s3 := hS.cell 3
    have s4 := hS.cell 4
    have s5 := hS.cell 5
    have t0 := hE.cell 0
    have HHH := Lib.hid (And.intro he hofs)
    clear he hofs hodd hodd' hpre hi' hq
    gi_wp2
    refine ⟨by simp, .inl ⟨_, _, rfl, run_takeDeferred hKD, ?_⟩⟩
    have hg9 := grownBy_putObj' W D (.deferred none)
    have hS9 := blk_own hS hg9 (fun r e => by cases e; exact ⟨_, hKD, rfl⟩)
    have hE9 := blk_own hE hg9 (fun r e => by cases e; exact ⟨_, hKD, rfl⟩)
    have q0 := hS9.cell 0
    have q1 := hS9.cell 1
    have q2 := hS9.cell 2
    have q3 := hS9.cell 3
    have q4 := hS9.cell 4
    have q5 := hS9.cell 5
    have q6 := hE9.cell 0
    refine ⟨.tuple #[.agg #[.int .i64 0, .int .i64 0, .int .i64 0, .int .i64 0, .int .i64 0, .slice none 0 0], .int .i64 1], ?_, ⟨_, by rw [HHH.out.1, HHH.out.2], ?_, hBel.trans (belowK_b (w := w) (Nat.le_refl _) W D _ (.deferred none) (by omega) hKD rfl rfl)⟩⟩
    · simp at q0 q1 q2 q3 q4 q5 q6
      simp [results, Tryz.f19, go_sem, q0, q1, q2, q3, q4, q5, q6]
    · rw [HHH.out.2]; exact OwnBs.nil _ _ _
end Go.Proofs.YtochabikpaoalaaGreat
