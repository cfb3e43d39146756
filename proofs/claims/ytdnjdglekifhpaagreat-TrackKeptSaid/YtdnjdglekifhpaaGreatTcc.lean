/- KEPT: a number that is kept is loaded at most its bound away from what it was. No conditions: every input. -/
import Derived.Sort.QuietIn
import Derived.Lib.MinMax
import Derived.Maps.OwnIn
import Derived.Outline
import Derived.Deep.DeepMust
import Derived.Test.YtdnjdglekifhpaaGreatTcb
namespace Go.Proofs.YtdnjdglekifhpaaGreat
open Go.RowKit Go.Shelf
attribute [local go_sem] Oper.semAt_some
abbrev Prt (z : Nat) (l : List Int) := { i : Nat // i * z < l.length }
def partV (A : Option Addr) (z n i : Nat) : Value := .slice (A.map fun ad => ad.add (i * z)) (min z (n - i * z)) (min z (n - i * z))
theorem IsI.part {w : World} {A : Option Addr} {c z i : Nat} {l : List Int} (h : IsI w (.slice A l.length c) l) (hi : i * z < l.length) : IsI w (partV A z l.length i) (partZ z l i) := by
  obtain ⟨A', c', e, h1, h2, hr⟩ := h
  obtain ⟨rfl, _, rfl⟩ := Value.slice.inj e
  obtain ⟨ad, rfl, hb, hc⟩ := hr.2 (by omega)
  have hl := partZ_len z l i
  refine ⟨some (ad.add (i * z)), min z (l.length - i * z), by rw [hl]; rfl, by rw [hl]; exact Nat.le_refl _, by omega, by rw [is_len, Nat.mul_one], fun h0 => ⟨_, rfl, by rw [block_of_add]; exact hb, fun j u hu => ?_⟩⟩
  have hj : j < (partZ z l i).length := by
    rcases Nat.lt_or_ge j (partZ z l i).length with h' | h'
    · exact h'
    · rw [List.getElem?_eq_none (by rw [is_len]; exact h')] at hu; cases hu
  rw [is_at _ j hj] at hu
  obtain rfl := Option.some.inj hu
  rw [add_of_add]
  have hjz : j < z := by rw [hl] at hj; omega
  have hil : i * z + j < l.length := by rw [hl] at hj; omega
  have := hc (i * z + j) _ (is_at l (i * z + j) hil)
  rw [this]
  have e2 : iat (partZ z l i) j = iat l (i * z + j) := by unfold iat; rw [partZ_at z l i j hjz]
  rw [e2]
set_option maxHeartbeats 1000000 in
theorem chunk_in (n : Nat) (A : Option Addr) (m c z : Nat) (hz : 1 ≤ z) (w : World) :
    CallsIn Fence.wide n Tryz.prog 98 #[.slice A m c, .int .i64 z] w fun e w' => e = .returned (.func (.func 158) #[] #[.pointer (some ⟨w.heap.size, 0, none⟩), .pointer (some ⟨w.heap.size + 1, 0, none⟩)]) ∧
      w' = (w.alloc (.cells #[.slice A m c] 62)).alloc (.cells #[.int .i64 z] 3) := by
  refine callsIn_wide.2 ?_
  have hmf : ∀ (fn : Fn) (first cap : Array Value) (w : World), (Instr.makeFunc fn first cap).run Tryz.prog w = .ok (.func fn first cap) w := fun _ _ _ _ => rfl
  have h1 : (1 : Int) ≤ (z : Int) := by omega
  go_enter Tryz.func98, Tryz.ntmps98
  go_wp2
  go_ret
  exact ⟨rfl, rfl⟩
set_option maxRecDepth 100000 in
set_option maxHeartbeats 2000000 in
theorem chunk1_in (lr Bs n₀ c z : Nat) (hz : 1 ≤ z) (hz2 : z ≤ 4096) (A : Option Addr) (l : List Int) (hl : l.length ≤ 4096) (w0 : World) (hv : IsI w0 (.slice A l.length c) l) (J Jx : List (Prt z l) → World → Prop) (hJd : ∀ pre W n, J pre W → J pre (W.drewN n))
    (hY : ∀ pre x W, J pre W → pre.length < partN z l.length → YieldAt Fence.wide (8 - 1) Tryz.prog lr #[partV A z l.length x.1] W fun e W' =>
      (e = .returned (.bool true) ∧ J (pre ++ [x]) W' ∧ KR n₀ Bs (Bs + 2) W W') ∨ (e = .returned (.bool false) ∧ Jx (pre ++ [x]) W'))
    (W : World) (h1 : W.cell? ⟨Bs, 0, none⟩ = some (.slice A l.length c)) (h2 : W.cell? ⟨Bs + 1, 0, none⟩ = some (.int .i64 z)) (h0 : J [] W) :
    CallsIn Fence.wide 8 Tryz.prog 158 #[.func (.yield lr) #[] #[], .pointer (some ⟨Bs, 0, none⟩), .pointer (some ⟨Bs + 1, 0, none⟩)] W fun e W' => (∃ v, e = .returned v) ∧
      ((∃ ys : List (Prt z l), ys.map (·.1) = List.range (partN z l.length) ∧ J ys W') ∨ (∃ pre : List (Prt z l), (∃ k, k ≤ partN z l.length ∧ pre.map (·.1) = List.range k) ∧ Jx pre W')) := by
  obtain ⟨A', c', e, hc1, hc2, hr⟩ := hv
  obtain ⟨rfl, _, rfl⟩ := Value.slice.inj e
  obtain ⟨N, hN⟩ : ∃ N, N = partN z l.length := ⟨_, rfl⟩
  have hlt_iff : Hid (∀ i, i < N ↔ i * z < l.length) := Lib.hid fun i => by rw [hN]; exact partN_lt hz
  have hall : Hid (l.length ≤ N * z) := Lib.hid (by rw [hN]; exact partN_all hz)
  rw [← hN] at hY ⊢
  clear hN
  refine callsIn_of_wp Tryz.func158 rfl trivial ?_ rfl
  simp only [Tryz.ntmps158, List.size_toArray, List.length_cons, List.length_nil, Nat.reduceAdd, Nat.reduceSub, Array.replicate_succ, Array.replicate_zero, List.push_toArray, List.append_toArray, List.nil_append, List.cons_append]
  gi_wp2
  gi_loopw [4] (fun i wr => ∃ (k q : Nat) (pre : List (Prt z l)), k ≤ N ∧ Hid (q = k * z) ∧ q ≤ 8192 ∧ i = .int .i64 q ∧ Hid (pre.map (·.1) = List.range k) ∧ J pre wr ∧ KR n₀ Bs (Bs + 2) W wr)
    (fun i _ => 8192 - (intOf i).toNat)
  case atStart => exact ⟨0, 0, [], Nat.zero_le _, Lib.hid (by omega), by omega, by simp, Lib.hid rfl, h0, KR.refl _ _ _ _⟩
  case round =>
    obtain ⟨k, q, pre, hk, hq, hq2, rfl, hpre, hJs, hnx⟩ := hrel
    have g1 := (hnx.cell (by omega) (by omega)).trans h1
    have g2 := (hnx.cell (by omega) (by omega)).trans h2
    by_cases hlt : q < l.length
    · have hkN : k < N := (hlt_iff.out k).2 (by rw [← hq.out]; exact hlt)
      obtain ⟨ad, rfl, hb, hcx⟩ := hr.2 (by omega)
      obtain ⟨m, hm⟩ : ∃ m : Nat, m = min z (l.length - q) := ⟨_, rfl⟩
      have hmin : min (z : Int) ((l.length - q : Nat) : Int) = (m : Int) := by omega
      have j0 : (0 : Int) ≤ (q : Int) := by omega
      have j1 : (q : Int) ≤ (l.length : Int) := by omega
      have j2 : (l.length : Int) ≤ (c : Int) := by omega
      have j3 : (q : Int) < (l.length : Int) := by omega
      have j4 : (q : Int) + (m : Int) ≤ (l.length : Int) := by omega
      have j5 : (0 : Int) < (m : Int) := by omega
      have j8 : 0 < m := by omega
      have j9 : (q : Int) < (c : Int) := by omega
      have j10 : q < c := by omega
      have j11 : (q : Int) < (q : Int) + (m : Int) := by omega
      have j6 : (q : Int) + (m : Int) ≤ (c : Int) := by omega
      have j7 : (q : Int) ≤ (q : Int) + (m : Int) := by omega
      have HM := Lib.hid hm
      have HMIN := Lib.hid hmin
      clear hm hmin
      gi_wp2_with fail
      gi_quiet (fail)
      rw [HMIN.out]
      obtain ⟨fn, tmps, assign, body, hy, hR⟩ := hY pre ⟨k, by rw [← hq.out]; exact hlt⟩ (wr.drewN nq) (hJd _ _ _ hJs) (by have := congrArg List.length hpre.out; rw [List.length_map, List.length_range] at this; omega)
      dsimp only [partV, Option.map] at hy
      rw [← hq.out, ← HM.out] at hy
      have hnew : Hid ((pre ++ [(⟨k, by rw [← hq.out]; exact hlt⟩ : Prt z l)]).map (·.1) = List.range (k + 1)) := Lib.hid (by rw [List.map_append, hpre.out, List.range_succ]; rfl)
      generalize (⟨k, by rw [← hq.out]; exact hlt⟩ : Prt z l) = x at hR hnew
      gi_wp2_with fail
      have hq3 : Hid (q + z = (k + 1) * z) := Lib.hid (by rw [hq.out, Nat.succ_mul])
      refine hR.mono ?_
      rintro e W3 (⟨rfl, hJ3, hk3⟩ | ⟨rfl, hJx3⟩)
      · have hnx3 : KR n₀ Bs (Bs + 2) W W3 := KR.trans ⟨below_drewN hnx.low nq, hnx.mid⟩ hk3
        have g3 := (hnx3.cell (by omega) (by omega)).trans h2
        gi_wp2
        exact ⟨⟨k + 1, q + z, _, by omega, hq3, by omega, by go_num, hnew, hJ3, hnx3⟩, by simp [intOf]; omega⟩
      · gi_wp2
        refine bodyPost_ret (results_none rfl _ _ _) rfl ?_
        exact ⟨⟨_, rfl⟩, .inr ⟨_, ⟨k + 1, by omega, hnew.out⟩, hJx3⟩⟩
    · obtain rfl : k = N := by
        rcases Nat.lt_or_ge k N with h | h
        · have := (hlt_iff.out k).1 h; rw [← hq.out] at this; exact absurd this hlt
        · omega
      gi_wp2
      go_end0
      exact ⟨⟨_, rfl⟩, .inl ⟨_, hpre.out, hJs⟩⟩
theorem chunk_stops (Bs n₀ c z : Nat) (hz : 1 ≤ z) (hz2 : z ≤ 4096) (A : Option Addr) (l : List Int) (hl : l.length ≤ 4096) (w0 : World) (hv : IsI w0 (.slice A l.length c) l) (w : World) (hB : Bs + 1 < w.heap.size)
    (h1 : w.cell? ⟨Bs, 0, none⟩ = some (.slice A l.length c)) (h2 : w.cell? ⟨Bs + 1, 0, none⟩ = some (.int .i64 z)) :
    SeqStopsK Fence.wide 8 Tryz.prog 158 #[.pointer (some ⟨Bs, 0, none⟩), .pointer (some ⟨Bs + 1, 0, none⟩)] (fun x : Prt z l => #[partV A z l.length x.1]) (KR n₀ Bs (Bs + 2))
      (fun ys => ys.map (·.1) = List.range (partN z l.length)) (fun pre => ∃ k, k ≤ partN z l.length ∧ pre.map (·.1) = List.range k) (partN z l.length) w := fun lr J Jx W hW hJ _ hY h0 =>
  chunk1_in lr Bs n₀ c z hz hz2 A l hl w0 hv J Jx (fun pre W n h => hJ _ W (W.drewN n) none h ⟨rfl, rfl, rfl, Nat.le_refl _, fun _ _ _ => rfl⟩ (fun r e => by cases e)) hY W
    ((hW.cell (p := ⟨Bs, 0, none⟩) (by simp; omega)).trans h1) ((hW.cell (p := ⟨Bs + 1, 0, none⟩) (by simp; omega)).trans h2) h0
end Go.Proofs.YtdnjdglekifhpaaGreat
namespace Go.Proofs.YtdnjdglekifhpaaGreat
open Go.RowKit Go.Shelf
attribute [local go_sem] Oper.semAt_some
theorem odd_four (p : List Int) : oddP 4 p = p.any (oddB true) := rfl
theorem odd_kind {kk : Int} (h : kk ≠ 4) (p : List Int) : oddP kk p = p.any (oddB (sgn kk)) := by
  have e4 : (kk == 4) = false := by rw [beq_eq_false_iff_ne]; exact h
  unfold oddP; rw [e4, Bool.false_or]
theorem pack_bad (kk : Int) (v : Value) (p : List Int) (w : World) (h : IsI w v p) (hk : 0 ≤ kk ∧ kk ≤ 4) (ho : oddP kk p = true) :
    Calls Tryz.prog 101 #[.int .i64 kk, v] w fun e w' => ∃ b, e = .returned (.tuple #[b, .int .i64 1]) ∧ IsBk w' b 0 0 [] [] ∧ Below w.heap.size w w' := by
  by_cases k4 : kk = 4
  · exact pack_oddw kk v p w h k4 (by rw [k4, odd_four] at ho; exact ho)
  · exact pack_odd kk v p w h (by omega) (by rw [odd_kind k4] at ho; exact ho)
theorem pack_good (kk : Int) (v : Value) (p : List Int) (w : World) (h : IsI w v p) (hk : 0 ≤ kk ∧ kk ≤ 4) (hl : p.length ≤ 4096) (hi : ∀ x ∈ p, I64 x) (ho : oddP kk p = false) :
    Calls Tryz.prog 101 #[.int .i64 kk, v] w fun e w' => ∃ b, e = .returned (.tuple #[b, .int .i64 0]) ∧ IsBk w' b (bkOf kk p).1 (bkOf kk p).2.1 (bkOf kk p).2.2.1 (bkOf kk p).2.2.2 ∧ Below w.heap.size w w' ∧ FreshB w.heap.size b := by
  unfold bkOf
  by_cases k4 : kk = 4
  · rw [if_pos k4]
    exact pack_wideF kk v p w h k4 hl (by rw [k4, odd_four] at ho; exact ho)
  · rw [if_neg k4]
    obtain ⟨n, rfl⟩ := Int.eq_ofNat_of_zero_le hk.1
    exact pack_codedF n v p w h n (by omega) rfl hl hi (by rw [odd_kind k4] at ho; exact ho)
theorem box4t (w : World) (t1 t2 t3 t4 : TypeId) (c1 c2 c3 c4 : Array Value) : ∃ W, W = (((w.alloc (.cells c1 t1)).alloc (.cells c2 t2)).alloc (.cells c3 t3)).alloc (.cells c4 t4) ∧ Blk W w.heap.size t1 c1 ∧ Blk W (w.heap.size + 1) t2 c2 ∧ Blk W (w.heap.size + 1 + 1) t3 c3 ∧ Blk W (w.heap.size + 1 + 1 + 1) t4 c4 ∧ Below w.heap.size w W := by
  have h2 := Blk.new (w.alloc (.cells c1 t1)) t2 c2
  have h3 := Blk.new ((w.alloc (.cells c1 t1)).alloc (.cells c2 t2)) t3 c3
  have h4 := Blk.new (((w.alloc (.cells c1 t1)).alloc (.cells c2 t2)).alloc (.cells c3 t3)) t4 c4
  simp only [World.size_alloc] at h2 h3 h4
  exact ⟨_, rfl, (((Blk.new w t1 c1).alloc _).alloc _).alloc _, (h2.alloc _).alloc _, h3.alloc _, h4, ((((Below.refl _ w).alloc (Nat.le_refl _) _).alloc (by simp) _).alloc (by simp; omega) _).alloc (by simp; omega) _⟩
theorem IsSt.zero (w : World) : IsSt w (.agg #[.int .i64 0, .int .i64 0, .int .i64 0, .int .i64 0, .int .i64 0, .slice none 0 0]) (0, 0, 0, 0, 0, []) := ⟨_, rfl, IsBs.nil w⟩
def bkP (k m o : Int) (Z : Nat) (l : List Int) (i : Nat) : Bk := bkOf (kindOf k m o l.length (partZ Z l i)) (partZ Z l i)
def oddPi (k m o : Int) (Z : Nat) (l : List Int) (i : Nat) : Bool := oddP (kindOf k m o l.length (partZ Z l i)) (partZ Z l i)
def OfI (k m o : Int) (Z : Nat) (A : Option Addr) (c : Nat) (l : List Int) (g X b : Nat) (ps : List Nat) (W : World) : Prop :=
  (∃ v, Blk W X 26 #[.int .i64 k, .int .i64 Z, .int .i64 m, .int .i64 o, .int .i64 l.length, v] ∧ OwnBs W b b v (ps.map (bkP k m o Z l))) ∧ (∀ i ∈ ps, oddPi k m o Z l i = false) ∧
  Blk W g 23 #[.int .i64 k, .int .i64 Z, .int .i64 m, .int .i64 o] ∧ Blk W (g + 1) 62 #[.slice A l.length c] ∧
  Blk W (g + 1 + 1) 26 #[.int .i64 0, .int .i64 0, .int .i64 0, .int .i64 0, .int .i64 0, .slice none 0 0] ∧ Blk W (g + 1 + 1 + 1) 42 #[.int .i64 0]
def OfX (k m o : Int) (Z : Nat) (l : List Int) (g : Nat) (ps : List Nat) (W : World) : Prop :=
  (∃ i ∈ ps, oddPi k m o Z l i = true) ∧ Blk W (g + 1 + 1) 26 #[.int .i64 0, .int .i64 0, .int .i64 0, .int .i64 0, .int .i64 0, .slice none 0 0] ∧ Blk W (g + 1 + 1 + 1) 42 #[.int .i64 1]
section
variable {X Y : World} {row : Option Nat}
theorem blk_own {g : Nat} {t : TypeId} {cs : Array Value} (h : Blk X g t cs) (hg : X.grownBy Y row) (hr : ∀ r, row = some r → ∃ o : Obj, X.heap[r]? = some o ∧ o.isCells = false) : Blk Y g t cs :=
  h.grown hg fun e => by
    obtain ⟨o, ho, hc⟩ := hr g e.symm
    unfold Blk at h; rw [h] at ho; cases ho; cases hc
theorem away_own {v : Value} {A : Option Addr} {n c m : Nat} {xs : List Value} (_ : v = .slice A n c) (h : Reads X X.heap.size 1 A m xs) (hm : 0 < m) (hxs : xs.length = m) (hr : ∀ r, row = some r → ∃ o : Obj, X.heap[r]? = some o ∧ o.isCells = false) : ∀ g, row = some g → v.ownBlock ≠ some g := by
  intro g e e2
  subst v
  obtain ⟨ad, rfl, hb, hc⟩ := h.2 hm
  have e3 : ad.block = g := by simpa [Value.ownBlock] using e2
  obtain ⟨o, ho, hcl⟩ := hr g e
  have := hc 0 xs[0] (List.getElem?_eq_getElem (by omega))
  have hbk : (ad.add 0).block = g := by rw [block_of_add]; exact e3
  unfold World.cell? at this
  rw [hbk, ho] at this
  cases o <;> simp_all [Obj.isCells]
theorem IsI.ownr {v : Value} {l : List Int} (h : IsI X v l) (hg : X.grownBy Y row) (hr : ∀ r, row = some r → ∃ o : Obj, X.heap[r]? = some o ∧ o.isCells = false) : IsI Y v l :=
  h.grownF hg fun g e => by
    obtain ⟨A, c, e1, h1, h2, h4⟩ := h
    rcases List.eq_nil_or_concat l with rfl | ⟨_, _, rfl⟩
    · exact .inl rfl
    · exact .inr (away_own e1 h4 (by simp) (by rw [is_len]) hr g e)
theorem IsY.ownr {v : Value} {l : List Nat} (h : IsY X v l) (hg : X.grownBy Y row) (hr : ∀ r, row = some r → ∃ o : Obj, X.heap[r]? = some o ∧ o.isCells = false) : IsY Y v l :=
  h.grownF hg fun g e => by
    obtain ⟨A, c, e1, h1, h2, h3, h4⟩ := h
    rcases List.eq_nil_or_concat l with rfl | ⟨_, _, rfl⟩
    · exact .inl rfl
    · exact .inr (away_own e1 h4 (by simp) (by rw [ys_len]) hr g e)
theorem OwnBs.ownr {b fl : Nat} {v : Value} {bs : List Bk} (h : OwnBs X b fl v bs) (hg : X.grownBy Y row) (hr : ∀ r, row = some r → ∃ o : Obj, X.heap[r]? = some o ∧ o.isCells = false) : OwnBs Y b fl v bs := by
  obtain ⟨es, h1, h2, h3, h4⟩ := h
  refine ⟨es, h1, fun e he => ⟨(h2 e he).1.ownr hg hr, (h2 e he).2.ownr hg hr⟩, h3, h4.kept hg ?_⟩
  rcases h4.2 with ⟨rfl, _⟩ | ⟨g, cap, cur, rfl, _, hh, _⟩
  · exact .inl rfl
  · right
    intro e
    obtain ⟨o, ho, hc⟩ := hr g (by rw [← e]; rfl)
    rw [hh] at ho; cases ho; cases hc
theorem OfI.own {k m o : Int} {Z : Nat} {A : Option Addr} {c : Nat} {l : List Int} {g x b : Nat} {ps : List Nat} (h : OfI k m o Z A c l g x b ps X) (hg : X.grownBy Y row) (hr : ∀ r, row = some r → ∃ o : Obj, X.heap[r]? = some o ∧ o.isCells = false) : OfI k m o Z A c l g x b ps Y := by
  obtain ⟨⟨v, h1, h2⟩, h3, h4, h5, h6, h7⟩ := h
  exact ⟨⟨v, blk_own h1 hg hr, h2.ownr hg hr⟩, h3, blk_own h4 hg hr, blk_own h5 hg hr, blk_own h6 hg hr, blk_own h7 hg hr⟩
theorem OfX.own {k m o : Int} {Z : Nat} {l : List Int} {g : Nat} {ps : List Nat} (h : OfX k m o Z l g ps X) (hg : X.grownBy Y row) (hr : ∀ r, row = some r → ∃ o : Obj, X.heap[r]? = some o ∧ o.isCells = false) : OfX k m o Z l g ps Y :=
  ⟨h.1, blk_own h.2.1 hg hr, blk_own h.2.2 hg hr⟩
end
set_option maxRecDepth 100000 in
set_option maxHeartbeats 4000000 in
theorem of_main (k m o : Int) (Z : Nat) (A : Option Addr) (c : Nat) (l : List Int) (w : World) (h : IsI w (.slice A l.length c) l) (hmay : mayB k Z m o = true) (z1 : 1 ≤ Z) (z2 : Z ≤ 4096) (hl : l.length ≤ 4096) (hi : ∀ x ∈ l, I64 x) :
    CallsIn Fence.wide 9 Tryz.prog 37 #[.agg #[.int .i64 k, .int .i64 Z, .int .i64 m, .int .i64 o], .slice A l.length c] w fun e w' => ∃ x, e = .returned (.tuple #[.agg #[.int .i64 (ofS k Z m o l).1, .int .i64 (ofS k Z m o l).2.1, .int .i64 (ofS k Z m o l).2.2.1, .int .i64 (ofS k Z m o l).2.2.2.1, .int .i64 (ofS k Z m o l).2.2.2.2.1, x], .int .i64 (ofE k Z m o l)]) ∧ OwnBs w' w.heap.size w.heap.size x (ofS k Z m o l).2.2.2.2.2 ∧ Below w.heap.size w w' := by
  obtain ⟨i0, hi0, hz0, hz1, hz2⟩ := info_parts info_blk
  have hM := fun n w => (callsIn_wide (n := n)).2 (tmay_any k Z m o w)
  rw [hmay] at hM
  have hl1 : decide ((4096 : Int) < (l.length : Int)) = false := decide_eq_false (by omega)
  have hl2 : decide (4096 < l.length) = false := decide_eq_false (by omega)
  obtain ⟨W0, hW, hK, hL, hS, hE, hB⟩ := box4t w 23 62 26 42 #[.int .i64 k, .int .i64 Z, .int .i64 m, .int .i64 o] #[.slice A l.length c] #[.int .i64 0, .int .i64 0, .int .i64 0, .int .i64 0, .int .i64 0, .slice none 0 0] #[.int .i64 0]
  have hW' := Lib.hid hW
  clear hW
  have k0 := hK.cell 0
  have k1 := hK.cell 1
  have k2 := hK.cell 2
  have k3 := hK.cell 3
  have l0 := hL.cell 0
  refine callsIn_of_wp_marks Tryz.func37 rfl trivial ?_ rfl
  simp only [Tryz.ntmps37, List.size_toArray, List.length_cons, List.length_nil, Nat.reduceAdd, Nat.reduceSub, Array.replicate_succ, Array.replicate_zero, List.push_toArray, List.append_toArray, List.nil_append, List.cons_append]
  gi_wp2_with (refine ⟨trivial, ?_⟩; gi_at_call 97; rw [← hW'.out]; refine (hM _ _).mono ?_; rintro e w1 ⟨rfl, b1⟩; have hK1 := hK.below b1 hK.lt; have hL1 := hL.below b1 hL.lt; have y0 := hK1.cell 0; have y1 := hK1.cell 1; have y2 := hK1.cell 2; have y3 := hK1.cell 3; have y4 := hL1.cell 0; have hK2 := hK1.alloc (.cells #[.int .i64 k, .int .i64 Z, .int .i64 m, .int .i64 o, .int .i64 l.length, .slice none 0 0] 26); have hL2 := hL1.alloc (.cells #[.int .i64 k, .int .i64 Z, .int .i64 m, .int .i64 o, .int .i64 l.length, .slice none 0 0] 26); have x1 := hK2.cell 1; have x4 := hL2.cell 0)
  refine ⟨trivial, ?_⟩
  refine (chunk_in _ _ _ _ _ z1 _).mono ?_
  rintro e w' ⟨rfl, rfl⟩
  gi_wp2_with fail
  have hR3 := (((Blk.new w1 26 #[.int .i64 k, .int .i64 Z, .int .i64 m, .int .i64 o, .int .i64 l.length, .slice none 0 0]).alloc (.cells #[.slice A l.length c] 62)).alloc (.cells #[.int .i64 Z] 3))
  have hK3 := (hK2.alloc (.cells #[.slice A l.length c] 62)).alloc (.cells #[.int .i64 Z] 3)
  have hL3 := (hL2.alloc (.cells #[.slice A l.length c] 62)).alloc (.cells #[.int .i64 Z] 3)
  have hS3 := (((hS.below b1 hS.lt).alloc (.cells #[.int .i64 k, .int .i64 Z, .int .i64 m, .int .i64 o, .int .i64 l.length, .slice none 0 0] 26)).alloc (.cells #[.slice A l.length c] 62)).alloc (.cells #[.int .i64 Z] 3)
  have hE3 := (((hE.below b1 hE.lt).alloc (.cells #[.int .i64 k, .int .i64 Z, .int .i64 m, .int .i64 o, .int .i64 l.length, .slice none 0 0] 26)).alloc (.cells #[.slice A l.length c] 62)).alloc (.cells #[.int .i64 Z] 3)
  have hC3 := (Blk.new (w1.alloc (.cells #[.int .i64 k, .int .i64 Z, .int .i64 m, .int .i64 o, .int .i64 l.length, .slice none 0 0] 26)) 62 #[.slice A l.length c]).alloc (.cells #[.int .i64 Z] 3)
  have hD3 := Blk.new ((w1.alloc (.cells #[.int .i64 k, .int .i64 Z, .int .i64 m, .int .i64 o, .int .i64 l.length, .slice none 0 0] 26)).alloc (.cells #[.slice A l.length c] 62)) 3 #[.int .i64 Z]
  simp only [World.size_alloc] at hC3 hD3
  have hB1 := hB.trans (b1.mono hB.size)
  have hB3 := ((hB1.alloc hB1.size (.cells #[.int .i64 k, .int .i64 Z, .int .i64 m, .int .i64 o, .int .i64 l.length, .slice none 0 0] 26)).alloc (by have := hB1.size; simp; omega) (.cells #[.slice A l.length c] 62)).alloc (by have := hB1.size; simp; omega) (.cells #[.int .i64 Z] 3)
  have hwX : w.heap.size + 1 + 1 + 1 < w1.heap.size := by have := hE.lt; have := b1.size; omega
  obtain ⟨W1, hW1⟩ : ∃ W1, W1 = ((w1.alloc (.cells #[.int .i64 k, .int .i64 Z, .int .i64 m, .int .i64 o, .int .i64 l.length, .slice none 0 0] 26)).alloc (.cells #[.slice A l.length c] 62)).alloc (.cells #[.int .i64 Z] 3) := ⟨_, rfl⟩
  have hsz : W1.heap.size = w1.heap.size + 1 + 1 + 1 := by rw [hW1]; simp
  rw [← hW1] at hR3 hK3 hL3 hS3 hE3 hC3 hD3 hB3 ⊢
  clear hW1 x1 x4 y0 y1 y2 y3 y4 k0 k1 k2 k3 l0 hK2 hL2 hK1 hL1 hK hL hS hE hB hB1 hW' hM b1
  have hcc := hC3.cell 0
  have hcd := hD3.cell 0
  generalize w1.heap.size = X at *
  refine wpIn_rangeFunc_ownG (n := 9) rfl (by omega) (gf := 158) (lb := #[.pointer (some ⟨X + 1, 0, none⟩), .pointer (some ⟨X + 1 + 1, 0, none⟩)]) rfl trivial (enters_of Tryz.func158 (by kernel_rfl) rfl)
    (chunk_stops (X + 1) w.heap.size c Z z1 z2 A l hl w h W1 (by omega) hcc hcd) KR.trans (KR.put (by omega) (by omega)) (Below.refl _ _) (fun _ => rfl)
    (fun pre W => OfI k m o Z A c l w.heap.size X W1.heap.size (pre.map (·.1)) W ∧ (Below w.heap.size w W ∧ W1.heap.size ≤ W.heap.size))
    (fun cd pre W => (cd = .ret ∧ OfX k m o Z l w.heap.size (pre.map (·.1)) W) ∧ Below w.heap.size w W)
    ?oI ?oX ?st ?a1 ?assign ?body ?done ?stop
  case assign =>
    intro lr x W K hK
    gi_wp2
    exact hK
  case oI => exact OwnFrom.and (Own.from (show Own (fun (s : List (Prt Z l)) (W : World) => OfI k m o Z A c l w.heap.size X W1.heap.size (s.map (·.1)) W) from fun s X Y row hs hg hr => OfI.own hs hg hr) _) (OwnFrom.and (ownFrom_below (by omega) (by omega)) (Own.from (show Own (fun (_ : List (Prt Z l)) (W : World) => W1.heap.size ≤ W.heap.size) from fun s X Y row hs hg hr => Nat.le_trans hs hg.size) _))
  case oX => exact fun cd => OwnFrom.and (Own.from (show Own (fun (s : List (Prt Z l)) (W : World) => cd = .ret ∧ OfX k m o Z l w.heap.size (s.map (·.1)) W) from fun s X Y row hs hg hr => ⟨hs.1, OfX.own hs.2 hg hr⟩) _) (ownFrom_below (by omega) (by omega))
  case st => exact ⟨⟨⟨_, hR3, OwnBs.nil _ _ _⟩, fun _ h => (nomatch h), hK3, hL3, hS3, hE3⟩, hB3, Nat.le_refl _⟩
  case body =>
    rintro lr pre x W ⟨⟨⟨v, hR, hown⟩, hodd, hK, hL, hS, hE⟩, hBel, hWs⟩ hlt
    have hp := (h.below hBel).part x.2
    have hpi : ∀ y ∈ partZ Z l x.1, I64 y := fun y hy => hi y (partZ_mem hy)
    have hpl : (partZ Z l x.1).length ≤ 4096 := by have := partZ_len Z l x.1; omega
    obtain ⟨xi, hxi⟩ : ∃ y, y = x.1 := ⟨_, rfl⟩
    obtain ⟨ps, hps⟩ : ∃ y, y = pre.map (fun y : Prt Z l => y.1) := ⟨_, rfl⟩
    have hnew : (pre ++ [x]).map (fun y : Prt Z l => y.1) = ps ++ [xi] := by rw [List.map_append, ← hps, hxi]; rfl
    have hplen : ps.length ≤ 4096 := by have := partN_le (z := Z) (n := l.length) z1; rw [hps, List.length_map]; omega
    have HNEW := Lib.hid hnew
    rw [← hps] at hown hodd
    obtain ⟨p, hpe⟩ : ∃ p, p = partZ Z l xi := ⟨_, rfl⟩
    obtain ⟨pv, hpv⟩ : ∃ pv, pv = partV A Z l.length x.1 := ⟨_, rfl⟩
    rw [← hxi, ← hpe] at hp hpi hpl
    rw [hxi, ← hpv] at hp
    have HPE := Lib.hid hpe
    have HPV := Lib.hid hpv
    try dsimp only
    rw [← hpv]
    clear hpe hpv hnew hlt hps hxi
    have hG := fun w h => tgreat_any pv p w h
    have hSt := fun w => tstays_any k Z m o l.length (greatW p) w
    obtain ⟨kk, hkk, hk4⟩ : ∃ kk, kk = kindOf k m o l.length p ∧ 0 ≤ kk ∧ kk ≤ 4 := ⟨_, rfl, by have := mayB_iff.1 hmay; rcases kindOf_or (k := k) (m := m) (o := o) l.length p with ⟨e, _⟩ | ⟨e, _⟩ <;> rw [e] <;> omega⟩
    have hks : (kk = 4 ∧ staysB m o l.length (greatW p) = true) ∨ (kk = k ∧ staysB m o l.length (greatW p) = false) := by rw [hkk]; exact kindOf_or _ _
    have HKK := Lib.hid hkk
    clear hkk
    generalize staysB m o (l.length : Int) (greatW p) = sb at *
    generalize greatW p = gp at *
    have k0 := hK.cell 0
    have k1 := hK.cell 1
    have k2 := hK.cell 2
    have k3 := hK.cell 3
    have l0 := hL.cell 0
    have hmx : Tryz.prog.follows .mixedOrders = true := by kernel_rfl
    have hGW := (hG W.drew (hp.below (bdrew W))).mono (R' := fun e w' => e = .returned (.int .i64 gp) ∧ w' = W.drew) (fun _ _ ⟨h, h'⟩ => ⟨h, h'.symm⟩)
    have HGW := Lib.hid hGW
    have HKS := Lib.hid hks
    have HODD := Lib.hid hodd
    clear hG hGW hks hodd
    gi_wp2_with fail
    refine wpInR_region_still_tail 5 hmx (by kernel_rfl) (by kernel_rfl) ?_
    simp only [List.take_succ_cons, List.take_zero, List.drop_succ_cons, List.drop_zero]
    iterate 4 still_step
    still_call HGW.out
    refine wpStill_nil ?_
    gi_wp2_with fail
    refine ⟨trivial, ?_⟩
    refine (CallsIn.inRound lr (callsIn_wide.2 (hSt _))).mono ?_
    rintro e w2 ⟨rfl, b2⟩
    have B2 : Below W.heap.size W w2 := bstep (bdrew W) b2
    have hp2 := hp.below B2
    clear hSt b2 k0 k1 k2 k3 l0 HGW
    rcases HKS.out with ⟨e4, rfl⟩ | ⟨e4, rfl⟩
    · have hP1 := fun w h (ho : oddP kk p = true) => pack_bad kk pv p w h hk4 ho
      have hP0 := fun w h (ho : oddP kk p = false) => pack_good kk pv p w h hk4 hpl hpi ho
      rw [e4] at hP1 hP0 hk4
      have HKK' := Lib.hid (HKK.out.symm.trans e4)
      clear HKK HKS e4 hk4 kk
      cases ho : oddP 4 p
      · have hP := fun w h => hP0 w h ho
        have hofb : Hid (bkP k m o Z l xi = bkOf 4 p) := Lib.hid (by unfold bkP; rw [← HPE.out, HKK'.out])
        have hofo : Hid (oddPi k m o Z l xi = false) := Lib.hid (by unfold oddPi; rw [← HPE.out, HKK'.out, ho])
        clear hP0 hP1 ho
        obtain ⟨⟨bk, bs, bc, bw⟩, hbb⟩ : ∃ b : Bk, b = bkOf 4 p := ⟨_, rfl⟩
        rw [← hbb] at hP hofb
        clear hbb
        gi_wp2_with fail
        refine ⟨trivial, ?_⟩
        refine (CallsIn.inRound lr (callsIn_wide.2 (hP _ hp2))).mono ?_
        rintro e w3 ⟨b, rfl, ⟨a1, a2, rfl, ha1, ha2⟩, b3, hfr⟩
        obtain ⟨A1, C1, rfl, _, _⟩ := id ha1.form
        obtain ⟨A2, C2, rfl, _, _⟩ := id ha2.form
        obtain ⟨_, _, _, _, hfe, hf1, hf2⟩ := hfr
        obtain ⟨rfl, rfl, rfl, rfl⟩ : _ ∧ _ ∧ _ ∧ _ := by simpa using hfe
        clear hfe hP
        have B3 := bstep B2 b3
        have hne : ∀ g, v.ownBlock = some g → g < w2.heap.size := fun g e => by
          obtain ⟨es, _, _, _, hr⟩ := hown
          exact Nat.lt_of_lt_of_le (hr.lt g e).2 B2.size
        have B4 : Below W.heap.size W (w3.alloc (.cells #[.int .i64 bk, .int .i64 bs, .slice A1 bc.length C1, .slice A2 bw.length C2] 103)) := balloc B3 _
        have hR4 := hR.below B4 hR.lt
        have hR5 := hR4.alloc (.cells #[.int .i64 bk, .int .i64 bs, .slice A1 bc.length C1, .slice A2 bw.length C2] 103)
        have hrow4 := hown.below B4
        have ha1' := ha1.below (balloc (Below.refl _ w3) (.cells #[.int .i64 bk, .int .i64 bs, .slice A1 bc.length C1, .slice A2 bw.length C2] 103))
        have ha2' := ha2.below (balloc (Below.refl _ w3) (.cells #[.int .i64 bk, .int .i64 bs, .slice A1 bc.length C1, .slice A2 bw.length C2] 103))
        have c5 := hR4.cell 5
        obtain ⟨es, hes, hok, haw, hrow⟩ := hrow4
        have hlen : es.length ≤ 4096 := by rw [← List.length_map (f := fun e : Eb => e.1), hes, List.length_map]; exact hplen
        have hbase : W1.heap.size ≤ (w3.alloc (.cells #[.int .i64 bk, .int .i64 bs, .slice A1 bc.length C1, .slice A2 bw.length C2] 103)).heap.size := Nat.le_trans hWs B4.size
        have hone := flatB_one [((bk, bs, bc, bw), (.slice A1 bc.length C1 : Value), (.slice A2 bw.length C2 : Value))] (w := w3) (fun e he => by
          obtain rfl := List.mem_singleton.1 he
          exact ⟨ha1, ha2⟩)
        have hlc := lit4_cells (w3.alloc (.cells #[.int .i64 bk, .int .i64 bs, .slice A1 bc.length C1, .slice A2 bw.length C2] 103)) 103 (.int .i64 bk) (.int .i64 bs) (.slice A1 bc.length C1) (.slice A2 bw.length C2)
        rw [World.size_alloc] at hlc
        have hwf := wide_fn 101
        gi_wp2_with (gi_at_builtin; go_must (refine wpListIn_append_own_at _ rfl (.tmp 49) (.tmp 51) _ rfl W1.heap.size 103 i0 _ 4 64 Tryz.underlying24 hi0 hz0 hz1 hz2 rfl (by omega) _ _ (flatB es) rfl (hrow.alloc _) ⟨w3.heap.size + 1, 0, none⟩ 1 1 (flatB [((bk, bs, bc, bw), (.slice A1 bc.length C1 : Value), (.slice A2 bw.length C2 : Value))]) rfl rfl hlc hone (by unfold maxLen; omega) (by omega) (by rw [World.size_alloc]; exact Nat.le_succ_of_le hbase) ?_; intro v' w6 hown' hgrow _ hat; obtain ⟨A7, C7, rfl, _, _⟩ := own4_form hown'; have hR6 := hR5.grown hgrow (fun e => own4_typed (hrow.alloc _) hR5 (by decide) e.symm); have c6 := hR6.cell 5; have f6 := hR6.frozen 5))
        obtain ⟨hbl, hko⟩ := below_grown4 hrow hbase hgrow
        have hwX : w.heap.size + 1 + 1 + 1 < X := by assumption
        have hX1 : X < W1.heap.size := by omega
        have hpush := OwnBs.push (fl := W1.heap.size) (ns := [((bk, bs, bc, bw), (.slice A1 bc.length C1 : Value), (.slice A2 bw.length C2 : Value))]) (hok.below (balloc (Below.refl _ _) (.cells #[.int .i64 bk, .int .i64 bs, .slice A1 bc.length C1, .slice A2 bw.length C2] 103))) haw
          (fun e he => by obtain rfl := List.mem_singleton.1 he; exact ⟨ha1'.below (balloc (Below.refl _ _) _), ha2'.below (balloc (Below.refl _ _) _)⟩)
          (fun e he => by
            obtain rfl := List.mem_singleton.1 he
            exact ⟨fun g eg => ⟨.inr (hf1.ne (hne g eg)), .inr (hf2.ne (hne g eg))⟩, hf1.more (Nat.le_trans hWs B2.size), hf2.more (Nat.le_trans hWs B2.size)⟩) rfl hown' hgrow hat
        rw [hes] at hpush
        have hOB := hpush.set (i := 5) hX1 hX1 (.slice A7 (es.length + 1) C7)
        have hR7 := hR6.set_ 5 (.slice A7 (es.length + 1) C7)
        have hK7 := ((hK.below B4 hK.lt).below hbl (show w.heap.size < W1.heap.size by omega)).far (p := ⟨X, 5, none⟩) (show w.heap.size ≠ X by omega) (.slice A7 (es.length + 1) C7)
        have hL7 := ((hL.below B4 hL.lt).below hbl (show w.heap.size + 1 < W1.heap.size by omega)).far (p := ⟨X, 5, none⟩) (show w.heap.size + 1 ≠ X by omega) (.slice A7 (es.length + 1) C7)
        have hS7 := ((hS.below B4 hS.lt).below hbl (show w.heap.size + 1 + 1 < W1.heap.size by omega)).far (p := ⟨X, 5, none⟩) (show w.heap.size + 1 + 1 ≠ X by omega) (.slice A7 (es.length + 1) C7)
        have hE7 := ((hE.below B4 hE.lt).below hbl (show w.heap.size + 1 + 1 + 1 < W1.heap.size by omega)).far (p := ⟨X, 5, none⟩) (show w.heap.size + 1 + 1 + 1 ≠ X by omega) (.slice A7 (es.length + 1) C7)
        refine ⟨?_, ?_, ?_⟩
        · refine KeepsOthers.from (KeepsOthers.trans (KeepsOthers.trans ⟨B4.size, fun k o hk ho => ?_⟩ ⟨hbl.size, hko⟩) (KeepsOthers.setCell _ _ _)) _
          exact (B4.block k (Array.getElem?_eq_some_iff.1 hk).1).trans hk
        · exact ((KR.of_below (B4.mono hWs) (by omega) (by omega)).trans (KR.of_below hbl (by omega) (by omega))).setAt (by omega) (.inl (by omega)) _
        · refine ⟨⟨⟨_, by simpa using hR7, ?_⟩, ?_, hK7, hL7, hS7, hE7⟩, ?_, ?_⟩
          · rw [HNEW.out, List.map_append]
            have e1 : [xi].map (bkP k m o Z l) = [((bk, bs, bc, bw) : Bk)] := by simp [hofb.out]
            rw [e1]; exact hOB
          · rw [HNEW.out]
            intro i hi'
            rcases List.mem_append.1 hi' with h1 | h1
            · exact HODD.out i h1
            · rw [List.mem_singleton.1 h1]; exact hofo.out
          · exact ((hBel.trans (B4.mono hBel.size)).trans (hbl.mono (by omega))).setCell (p := ⟨X, 5, none⟩) (by show w.heap.size ≤ X; omega) _
          · simp [World.setCell]; exact Nat.le_trans hbase hbl.size
      · have hP := fun w h => hP1 w h ho
        have hofo : Hid (oddPi k m o Z l xi = true) := Lib.hid (by unfold oddPi; rw [← HPE.out, HKK'.out, ho])
        clear hP0 hP1 ho
        gi_wp2_with fail
        refine ⟨trivial, ?_⟩
        refine (CallsIn.inRound lr (callsIn_wide.2 (hP _ hp2))).mono ?_
        rintro e w3 ⟨b, rfl, ⟨a1, a2, rfl, ha1, ha2⟩, b3⟩
        obtain ⟨A1, C1, rfl, _, _⟩ := id ha1.form
        obtain ⟨A2, C2, rfl, _, _⟩ := id ha2.form
        have B3 := bstep B2 b3
        have B4 : Below W.heap.size W (w3.alloc (.cells #[.int .i64 0, .int .i64 0, .slice A1 0 C1, .slice A2 0 C2] 103)) := balloc B3 _
        have hS4 := hS.below B4 hS.lt
        have hE4 := hE.below B4 hE.lt
        have s0 := hS4.cell 0
        have s1 := hS4.cell 1
        have s2 := hS4.cell 2
        have s3 := hS4.cell 3
        have s4 := hS4.cell 4
        have s5 := hS4.cell 5
        have f0 := hS4.frozen 0
        have f1 := hS4.frozen 1
        have f2 := hS4.frozen 2
        have f3 := hS4.frozen 3
        have f4 := hS4.frozen 4
        have f5 := hS4.frozen 5
        have t0 := hE4.cell 0
        have t1 := hE4.frozen 0
        gi_wp2
        have hS8 := ((((((hS4.set_ 0 (.int .i64 0)).set_ 1 (.int .i64 0)).set_ 2 (.int .i64 0)).set_ 3 (.int .i64 0)).set_ 4 (.int .i64 0)).set_ 5 (.slice none 0 0)).far (p := ⟨w.heap.size + 1 + 1 + 1, 0, none⟩) (show w.heap.size + 1 + 1 ≠ w.heap.size + 1 + 1 + 1 by omega) (.int .i64 1)
        have far := fun (w9 : World) (i : Nat) (u : Value) (h9 : Blk w9 (w.heap.size + 1 + 1 + 1) 42 #[.int .i64 0]) => h9.far (p := ⟨w.heap.size + 1 + 1, i, none⟩) (show w.heap.size + 1 + 1 + 1 ≠ w.heap.size + 1 + 1 by omega) u
        have hE8 := (far _ 5 (.slice none 0 0) (far _ 4 (.int .i64 0) (far _ 3 (.int .i64 0) (far _ 2 (.int .i64 0) (far _ 1 (.int .i64 0) (far _ 0 (.int .i64 0) hE4)))))).set_ 0 (.int .i64 1)
        refine ⟨?_, ⟨rfl, ⟨xi, ?_, hofo.out⟩, by simpa using hS8, by simpa using hE8⟩, ?_⟩
        · refine KeepsOthers.from (KeepsOthers.trans (B := w3.alloc (.cells #[.int .i64 0, .int .i64 0, .slice A1 0 C1, .slice A2 0 C2] 103)) ⟨B4.size, fun k o hk ho => (B4.block k (Array.getElem?_eq_some_iff.1 hk).1).trans hk⟩ ?_) _
          exact (((((((KeepsOthers.setCell _ _ _).trans (KeepsOthers.setCell _ _ _)).trans (KeepsOthers.setCell _ _ _)).trans (KeepsOthers.setCell _ _ _)).trans (KeepsOthers.setCell _ _ _)).trans (KeepsOthers.setCell _ _ _)).trans (KeepsOthers.setCell _ _ _))
        · rw [HNEW.out]; simp
        · exact bset (bset (bset (bset (bset (bset (bset (hBel.trans (B4.mono hBel.size)) (by omega) _) (by omega) _) (by omega) _) (by omega) _) (by omega) _) (by omega) _) (by omega) _
    · have hP1 := fun w h (ho : oddP kk p = true) => pack_bad kk pv p w h hk4 ho
      have hP0 := fun w h (ho : oddP kk p = false) => pack_good kk pv p w h hk4 hpl hpi ho
      rw [e4] at hP1 hP0 hk4
      have HKK' := Lib.hid (HKK.out.symm.trans e4)
      clear HKK HKS e4 hk4 kk
      cases ho : oddP k p
      · have hP := fun w h => hP0 w h ho
        have hofb : Hid (bkP k m o Z l xi = bkOf k p) := Lib.hid (by unfold bkP; rw [← HPE.out, HKK'.out])
        have hofo : Hid (oddPi k m o Z l xi = false) := Lib.hid (by unfold oddPi; rw [← HPE.out, HKK'.out, ho])
        clear hP0 hP1 ho
        obtain ⟨⟨bk, bs, bc, bw⟩, hbb⟩ : ∃ b : Bk, b = bkOf k p := ⟨_, rfl⟩
        rw [← hbb] at hP hofb
        clear hbb
        gi_wp2_with fail
        refine ⟨trivial, ?_⟩
        refine (CallsIn.inRound lr (callsIn_wide.2 (hP _ hp2))).mono ?_
        rintro e w3 ⟨b, rfl, ⟨a1, a2, rfl, ha1, ha2⟩, b3, hfr⟩
        obtain ⟨A1, C1, rfl, _, _⟩ := id ha1.form
        obtain ⟨A2, C2, rfl, _, _⟩ := id ha2.form
        obtain ⟨_, _, _, _, hfe, hf1, hf2⟩ := hfr
        obtain ⟨rfl, rfl, rfl, rfl⟩ : _ ∧ _ ∧ _ ∧ _ := by simpa using hfe
        clear hfe hP
        have B3 := bstep B2 b3
        have hne : ∀ g, v.ownBlock = some g → g < w2.heap.size := fun g e => by
          obtain ⟨es, _, _, _, hr⟩ := hown
          exact Nat.lt_of_lt_of_le (hr.lt g e).2 B2.size
        have B4 : Below W.heap.size W (w3.alloc (.cells #[.int .i64 bk, .int .i64 bs, .slice A1 bc.length C1, .slice A2 bw.length C2] 103)) := balloc B3 _
        have hR4 := hR.below B4 hR.lt
        have hR5 := hR4.alloc (.cells #[.int .i64 bk, .int .i64 bs, .slice A1 bc.length C1, .slice A2 bw.length C2] 103)
        have hrow4 := hown.below B4
        have ha1' := ha1.below (balloc (Below.refl _ w3) (.cells #[.int .i64 bk, .int .i64 bs, .slice A1 bc.length C1, .slice A2 bw.length C2] 103))
        have ha2' := ha2.below (balloc (Below.refl _ w3) (.cells #[.int .i64 bk, .int .i64 bs, .slice A1 bc.length C1, .slice A2 bw.length C2] 103))
        have c5 := hR4.cell 5
        obtain ⟨es, hes, hok, haw, hrow⟩ := hrow4
        have hlen : es.length ≤ 4096 := by rw [← List.length_map (f := fun e : Eb => e.1), hes, List.length_map]; exact hplen
        have hbase : W1.heap.size ≤ (w3.alloc (.cells #[.int .i64 bk, .int .i64 bs, .slice A1 bc.length C1, .slice A2 bw.length C2] 103)).heap.size := Nat.le_trans hWs B4.size
        have hone := flatB_one [((bk, bs, bc, bw), (.slice A1 bc.length C1 : Value), (.slice A2 bw.length C2 : Value))] (w := w3) (fun e he => by
          obtain rfl := List.mem_singleton.1 he
          exact ⟨ha1, ha2⟩)
        have hlc := lit4_cells (w3.alloc (.cells #[.int .i64 bk, .int .i64 bs, .slice A1 bc.length C1, .slice A2 bw.length C2] 103)) 103 (.int .i64 bk) (.int .i64 bs) (.slice A1 bc.length C1) (.slice A2 bw.length C2)
        rw [World.size_alloc] at hlc
        have hwf := wide_fn 101
        gi_wp2_with (gi_at_builtin; go_must (refine wpListIn_append_own_at _ rfl (.tmp 49) (.tmp 51) _ rfl W1.heap.size 103 i0 _ 4 64 Tryz.underlying24 hi0 hz0 hz1 hz2 rfl (by omega) _ _ (flatB es) rfl (hrow.alloc _) ⟨w3.heap.size + 1, 0, none⟩ 1 1 (flatB [((bk, bs, bc, bw), (.slice A1 bc.length C1 : Value), (.slice A2 bw.length C2 : Value))]) rfl rfl hlc hone (by unfold maxLen; omega) (by omega) (by rw [World.size_alloc]; exact Nat.le_succ_of_le hbase) ?_; intro v' w6 hown' hgrow _ hat; obtain ⟨A7, C7, rfl, _, _⟩ := own4_form hown'; have hR6 := hR5.grown hgrow (fun e => own4_typed (hrow.alloc _) hR5 (by decide) e.symm); have c6 := hR6.cell 5; have f6 := hR6.frozen 5))
        obtain ⟨hbl, hko⟩ := below_grown4 hrow hbase hgrow
        have hwX : w.heap.size + 1 + 1 + 1 < X := by assumption
        have hX1 : X < W1.heap.size := by omega
        have hpush := OwnBs.push (fl := W1.heap.size) (ns := [((bk, bs, bc, bw), (.slice A1 bc.length C1 : Value), (.slice A2 bw.length C2 : Value))]) (hok.below (balloc (Below.refl _ _) (.cells #[.int .i64 bk, .int .i64 bs, .slice A1 bc.length C1, .slice A2 bw.length C2] 103))) haw
          (fun e he => by obtain rfl := List.mem_singleton.1 he; exact ⟨ha1'.below (balloc (Below.refl _ _) _), ha2'.below (balloc (Below.refl _ _) _)⟩)
          (fun e he => by
            obtain rfl := List.mem_singleton.1 he
            exact ⟨fun g eg => ⟨.inr (hf1.ne (hne g eg)), .inr (hf2.ne (hne g eg))⟩, hf1.more (Nat.le_trans hWs B2.size), hf2.more (Nat.le_trans hWs B2.size)⟩) rfl hown' hgrow hat
        rw [hes] at hpush
        have hOB := hpush.set (i := 5) hX1 hX1 (.slice A7 (es.length + 1) C7)
        have hR7 := hR6.set_ 5 (.slice A7 (es.length + 1) C7)
        have hK7 := ((hK.below B4 hK.lt).below hbl (show w.heap.size < W1.heap.size by omega)).far (p := ⟨X, 5, none⟩) (show w.heap.size ≠ X by omega) (.slice A7 (es.length + 1) C7)
        have hL7 := ((hL.below B4 hL.lt).below hbl (show w.heap.size + 1 < W1.heap.size by omega)).far (p := ⟨X, 5, none⟩) (show w.heap.size + 1 ≠ X by omega) (.slice A7 (es.length + 1) C7)
        have hS7 := ((hS.below B4 hS.lt).below hbl (show w.heap.size + 1 + 1 < W1.heap.size by omega)).far (p := ⟨X, 5, none⟩) (show w.heap.size + 1 + 1 ≠ X by omega) (.slice A7 (es.length + 1) C7)
        have hE7 := ((hE.below B4 hE.lt).below hbl (show w.heap.size + 1 + 1 + 1 < W1.heap.size by omega)).far (p := ⟨X, 5, none⟩) (show w.heap.size + 1 + 1 + 1 ≠ X by omega) (.slice A7 (es.length + 1) C7)
        refine ⟨?_, ?_, ?_⟩
        · refine KeepsOthers.from (KeepsOthers.trans (KeepsOthers.trans ⟨B4.size, fun k o hk ho => ?_⟩ ⟨hbl.size, hko⟩) (KeepsOthers.setCell _ _ _)) _
          exact (B4.block k (Array.getElem?_eq_some_iff.1 hk).1).trans hk
        · exact ((KR.of_below (B4.mono hWs) (by omega) (by omega)).trans (KR.of_below hbl (by omega) (by omega))).setAt (by omega) (.inl (by omega)) _
        · refine ⟨⟨⟨_, by simpa using hR7, ?_⟩, ?_, hK7, hL7, hS7, hE7⟩, ?_, ?_⟩
          · rw [HNEW.out, List.map_append]
            have e1 : [xi].map (bkP k m o Z l) = [((bk, bs, bc, bw) : Bk)] := by simp [hofb.out]
            rw [e1]; exact hOB
          · rw [HNEW.out]
            intro i hi'
            rcases List.mem_append.1 hi' with h1 | h1
            · exact HODD.out i h1
            · rw [List.mem_singleton.1 h1]; exact hofo.out
          · exact ((hBel.trans (B4.mono hBel.size)).trans (hbl.mono (by omega))).setCell (p := ⟨X, 5, none⟩) (by show w.heap.size ≤ X; omega) _
          · simp [World.setCell]; exact Nat.le_trans hbase hbl.size
      · have hP := fun w h => hP1 w h ho
        have hofo : Hid (oddPi k m o Z l xi = true) := Lib.hid (by unfold oddPi; rw [← HPE.out, HKK'.out, ho])
        clear hP0 hP1 ho
        gi_wp2_with fail
        refine ⟨trivial, ?_⟩
        refine (CallsIn.inRound lr (callsIn_wide.2 (hP _ hp2))).mono ?_
        rintro e w3 ⟨b, rfl, ⟨a1, a2, rfl, ha1, ha2⟩, b3⟩
        obtain ⟨A1, C1, rfl, _, _⟩ := id ha1.form
        obtain ⟨A2, C2, rfl, _, _⟩ := id ha2.form
        have B3 := bstep B2 b3
        have B4 : Below W.heap.size W (w3.alloc (.cells #[.int .i64 0, .int .i64 0, .slice A1 0 C1, .slice A2 0 C2] 103)) := balloc B3 _
        have hS4 := hS.below B4 hS.lt
        have hE4 := hE.below B4 hE.lt
        have s0 := hS4.cell 0
        have s1 := hS4.cell 1
        have s2 := hS4.cell 2
        have s3 := hS4.cell 3
        have s4 := hS4.cell 4
        have s5 := hS4.cell 5
        have f0 := hS4.frozen 0
        have f1 := hS4.frozen 1
        have f2 := hS4.frozen 2
        have f3 := hS4.frozen 3
        have f4 := hS4.frozen 4
        have f5 := hS4.frozen 5
        have t0 := hE4.cell 0
        have t1 := hE4.frozen 0
        gi_wp2
        have hS8 := ((((((hS4.set_ 0 (.int .i64 0)).set_ 1 (.int .i64 0)).set_ 2 (.int .i64 0)).set_ 3 (.int .i64 0)).set_ 4 (.int .i64 0)).set_ 5 (.slice none 0 0)).far (p := ⟨w.heap.size + 1 + 1 + 1, 0, none⟩) (show w.heap.size + 1 + 1 ≠ w.heap.size + 1 + 1 + 1 by omega) (.int .i64 1)
        have far := fun (w9 : World) (i : Nat) (u : Value) (h9 : Blk w9 (w.heap.size + 1 + 1 + 1) 42 #[.int .i64 0]) => h9.far (p := ⟨w.heap.size + 1 + 1, i, none⟩) (show w.heap.size + 1 + 1 + 1 ≠ w.heap.size + 1 + 1 by omega) u
        have hE8 := (far _ 5 (.slice none 0 0) (far _ 4 (.int .i64 0) (far _ 3 (.int .i64 0) (far _ 2 (.int .i64 0) (far _ 1 (.int .i64 0) (far _ 0 (.int .i64 0) hE4)))))).set_ 0 (.int .i64 1)
        refine ⟨?_, ⟨rfl, ⟨xi, ?_, hofo.out⟩, by simpa using hS8, by simpa using hE8⟩, ?_⟩
        · refine KeepsOthers.from (KeepsOthers.trans (B := w3.alloc (.cells #[.int .i64 0, .int .i64 0, .slice A1 0 C1, .slice A2 0 C2] 103)) ⟨B4.size, fun k o hk ho => (B4.block k (Array.getElem?_eq_some_iff.1 hk).1).trans hk⟩ ?_) _
          exact (((((((KeepsOthers.setCell _ _ _).trans (KeepsOthers.setCell _ _ _)).trans (KeepsOthers.setCell _ _ _)).trans (KeepsOthers.setCell _ _ _)).trans (KeepsOthers.setCell _ _ _)).trans (KeepsOthers.setCell _ _ _)).trans (KeepsOthers.setCell _ _ _))
        · rw [HNEW.out]; simp
        · exact bset (bset (bset (bset (bset (bset (bset (hBel.trans (B4.mono hBel.size)) (by omega) _) (by omega) _) (by omega) _) (by omega) _) (by omega) _) (by omega) _) (by omega) _
  case done =>
    rintro D ys W hD hys ⟨⟨⟨v, hR, hown⟩, hodd, hK, hL, hS, hE⟩, hBel, hWs⟩ hKD
    rw [hys] at hown hodd
    have hodd' : oddTo k Z m o l (partN Z l.length) = false := by
      unfold oddTo; rw [List.any_eq_false]
      intro i hi'
      have := hodd i hi'
      unfold oddPi at this
      rw [Int.toNat_natCast, this]; simp
    have he : ofE k Z m o l = 0 := ofE_ok hmay hl (by rw [Int.toNat_natCast]; exact hodd')
    have hbk : (List.range (partN Z l.length)).map (bkP k m o Z l) = bksTo k Z m o l (partN (Z : Int).toNat l.length) := by
      unfold bksTo; rw [Int.toNat_natCast]; rfl
    rw [hbk] at hown
    have hofs : ofS k Z m o l = (k, (Z : Int), m, o, (l.length : Int), bksTo k Z m o l (partN (Z : Int).toNat l.length)) := if_pos he
    have hib := hown.is
    obtain ⟨A9, C9, rfl, _, _⟩ := id hib.len
    generalize bksTo k (Z : Int) m o l (partN (Z : Int).toNat l.length) = bs at *
    have r0 := hR.cell 0
    have r1 := hR.cell 1
    have r2 := hR.cell 2
    have r3 := hR.cell 3
    have r4 := hR.cell 4
    have r5 := hR.cell 5
    have s0 := hS.cell 0
    have s1 := hS.cell 1
    have s2 := hS.cell 2
    have s3 := hS.cell 3
    have s4 := hS.cell 4
    have s5 := hS.cell 5
    have f0 := hS.frozen 0
    have f1 := hS.frozen 1
    have f2 := hS.frozen 2
    have f3 := hS.frozen 3
    have f4 := hS.frozen 4
    have f5 := hS.frozen 5
    have t0 := hE.cell 0
    have t1 := hE.frozen 0
    have HHH := Lib.hid (And.intro he (And.intro hys (And.intro hofs (And.intro hbk hodd))))
    clear he hys hofs hbk hodd hodd'
    gi_wp2
    have OB8 := ((((((hown.set (X := w.heap.size + 1 + 1) (i := 0) (by omega) (by omega) (.int .i64 k)).set (X := w.heap.size + 1 + 1) (i := 1) (by omega) (by omega) (.int .i64 Z)).set (X := w.heap.size + 1 + 1) (i := 2) (by omega) (by omega) (.int .i64 m)).set (X := w.heap.size + 1 + 1) (i := 3) (by omega) (by omega) (.int .i64 o)).set (X := w.heap.size + 1 + 1) (i := 4) (by omega) (by omega) (.int .i64 l.length)).set (X := w.heap.size + 1 + 1) (i := 5) (by omega) (by omega) (.slice A9 bs.length C9)).set (X := w.heap.size + 1 + 1 + 1) (i := 0) (by omega) (by omega) (.int .i64 0)
    have hS8 := ((((((hS.set_ 0 (.int .i64 k)).set_ 1 (.int .i64 Z)).set_ 2 (.int .i64 m)).set_ 3 (.int .i64 o)).set_ 4 (.int .i64 l.length)).set_ 5 (.slice A9 bs.length C9)).far (p := ⟨w.heap.size + 1 + 1 + 1, 0, none⟩) (show w.heap.size + 1 + 1 ≠ w.heap.size + 1 + 1 + 1 by omega) (.int .i64 0)
    have far := fun (w9 : World) (i : Nat) (u : Value) (h9 : Blk w9 (w.heap.size + 1 + 1 + 1) 42 #[.int .i64 0]) => h9.far (p := ⟨w.heap.size + 1 + 1, i, none⟩) (show w.heap.size + 1 + 1 + 1 ≠ w.heap.size + 1 + 1 by omega) u
    have hE8 := (far _ 5 (.slice A9 bs.length C9) (far _ 4 (.int .i64 l.length) (far _ 3 (.int .i64 o) (far _ 2 (.int .i64 m) (far _ 1 (.int .i64 Z) (far _ 0 (.int .i64 k) hE)))))).set_ 0 (.int .i64 0)
    have hB8 := bset (bset (bset (bset (bset (bset (bset hBel (show w.heap.size ≤ w.heap.size + 1 + 1 by omega) (i := 0) (.int .i64 k)) (show w.heap.size ≤ w.heap.size + 1 + 1 by omega) (i := 1) (.int .i64 Z)) (show w.heap.size ≤ w.heap.size + 1 + 1 by omega) (i := 2) (.int .i64 m)) (show w.heap.size ≤ w.heap.size + 1 + 1 by omega) (i := 3) (.int .i64 o)) (show w.heap.size ≤ w.heap.size + 1 + 1 by omega) (i := 4) (.int .i64 l.length)) (show w.heap.size ≤ w.heap.size + 1 + 1 by omega) (i := 5) (.slice A9 bs.length C9)) (show w.heap.size ≤ w.heap.size + 1 + 1 + 1 by omega) (i := 0) (.int .i64 0)
    have KO : KeepsOthers W _ := (((((((KeepsOthers.setCell W ⟨w.heap.size + 1 + 1, 0, none⟩ (.int .i64 k)).trans (KeepsOthers.setCell _ ⟨w.heap.size + 1 + 1, 1, none⟩ (.int .i64 Z))).trans (KeepsOthers.setCell _ ⟨w.heap.size + 1 + 1, 2, none⟩ (.int .i64 m))).trans (KeepsOthers.setCell _ ⟨w.heap.size + 1 + 1, 3, none⟩ (.int .i64 o))).trans (KeepsOthers.setCell _ ⟨w.heap.size + 1 + 1, 4, none⟩ (.int .i64 l.length))).trans (KeepsOthers.setCell _ ⟨w.heap.size + 1 + 1, 5, none⟩ (.slice A9 bs.length C9))).trans (KeepsOthers.setCell _ ⟨w.heap.size + 1 + 1 + 1, 0, none⟩ (.int .i64 0)))
    have hK' := KO.same D _ hKD rfl
    refine ⟨by simp, .inl ⟨_, _, rfl, run_takeDeferred hK', ?_⟩⟩
    have hS9 := blk_own hS8 (grownBy_putObj' _ D (.deferred none)) (fun r e => by cases e; exact ⟨_, hK', rfl⟩)
    have hE9 := blk_own hE8 (grownBy_putObj' _ D (.deferred none)) (fun r e => by cases e; exact ⟨_, hK', rfl⟩)
    have OB9 := OB8.ownr (grownBy_putObj' _ D (.deferred none)) (fun r e => by cases e; exact ⟨_, hK', rfl⟩)
    have q0 := hS9.cell 0
    have q1 := hS9.cell 1
    have q2 := hS9.cell 2
    have q3 := hS9.cell 3
    have q4 := hS9.cell 4
    have q5 := hS9.cell 5
    have q6 := hE9.cell 0
    refine ⟨.tuple #[.agg #[.int .i64 k, .int .i64 Z, .int .i64 m, .int .i64 o, .int .i64 l.length, .slice A9 bs.length C9], .int .i64 0], ?_, ⟨_, by rw [HHH.out.1, HHH.out.2.2.1], ?_, hB8.trans (belowK_b (w := w) (Nat.le_refl _) _ D _ (.deferred none) (by omega) hK' rfl rfl)⟩⟩
    · simp at q0 q1 q2 q3 q4 q5 q6
      simp [results, Tryz.f37, go_sem, q0, q1, q2, q3, q4, q5, q6]
    · rw [HHH.out.2.2.1]; exact OB9.lower (by omega) (by omega)
  case stop =>
    rintro D cd pre W hD hpre ⟨⟨rfl, ⟨i, hi', hodd⟩, hS, hE⟩, hBel⟩ hKD
    obtain ⟨q, hq, hpre⟩ := hpre
    have hodd' : oddTo k Z m o l (partN Z l.length) = true := by
      unfold oddTo
      rw [hpre] at hi'
      exact List.any_eq_true.2 ⟨i, List.mem_range.2 (by have := List.mem_range.1 hi'; omega), by rw [Int.toNat_natCast]; exact hodd⟩
    have he : ofE k Z m o l = 1 := by unfold ofE; rw [if_pos hmay, if_pos hl, Int.toNat_natCast, hodd']; rfl
    have hofs : ofS k Z m o l = (0, 0, 0, 0, 0, []) := if_neg (by rw [he]; decide)
    have s0 := hS.cell 0
    have s1 := hS.cell 1
    have s2 := hS.cell 2
    have s3 := hS.cell 3
    have s4 := hS.cell 4
    have s5 := hS.cell 5
    have t0 := hE.cell 0
    have HHH := Lib.hid (And.intro he hofs)
    clear he hofs hodd hodd' hpre hi' hq
    gi_wp2
    refine ⟨by simp, .inl ⟨_, _, rfl, run_takeDeferred hKD, ?_⟩⟩
    have hg9 := grownBy_putObj' W D (.deferred none)
    have hS9 := blk_own hS hg9 (fun r e => by cases e; exact ⟨_, hKD, rfl⟩)
    have hE9 := blk_own hE hg9 (fun r e => by cases e; exact ⟨_, hKD, rfl⟩)
    have q0 := hS9.cell 0
    have q1 := hS9.cell 1
    have q2 := hS9.cell 2
    have q3 := hS9.cell 3
    have q4 := hS9.cell 4
    have q5 := hS9.cell 5
    have q6 := hE9.cell 0
    refine ⟨.tuple #[.agg #[.int .i64 0, .int .i64 0, .int .i64 0, .int .i64 0, .int .i64 0, .slice none 0 0], .int .i64 1], ?_, ⟨_, by rw [HHH.out.1, HHH.out.2], ?_, hBel.trans (belowK_b (w := w) (Nat.le_refl _) W D _ (.deferred none) (by omega) hKD rfl rfl)⟩⟩
    · simp at q0 q1 q2 q3 q4 q5 q6
      simp [results, Tryz.f37, go_sem, q0, q1, q2, q3, q4, q5, q6]
    · rw [HHH.out.2]; exact OwnBs.nil _ _ _
end Go.Proofs.YtdnjdglekifhpaaGreat
namespace Go.Proofs.YtdnjdglekifhpaaGreat
open Go.RowKit Go.Shelf
attribute [local go_sem] Oper.semAt_some
set_option maxRecDepth 100000 in
set_option maxHeartbeats 4000000 in
theorem of_wrong (k z m o : Int) (v : Value) (l : List Int) (w : World) (h : IsI w v l) (hmay : mayB k z m o = false) :
    CallsIn Fence.wide 9 Tryz.prog 37 #[.agg #[.int .i64 k, .int .i64 z, .int .i64 m, .int .i64 o], v] w fun e w' => ∃ x, e = .returned (.tuple #[.agg #[.int .i64 0, .int .i64 0, .int .i64 0, .int .i64 0, .int .i64 0, x], .int .i64 1]) ∧ OwnBs w' w.heap.size w.heap.size x [] ∧ Below w.heap.size w w' := by
  obtain ⟨A, c, rfl, _, _⟩ := id h.form
  have hM := fun n w => (callsIn_wide (n := n)).2 (tmay_any k z m o w)
  rw [hmay] at hM
  obtain ⟨W0, hW, hK, hL, hS, hE, hB⟩ := box4t w 23 62 26 42 #[.int .i64 k, .int .i64 z, .int .i64 m, .int .i64 o] #[.slice A l.length c] #[.int .i64 0, .int .i64 0, .int .i64 0, .int .i64 0, .int .i64 0, .slice none 0 0] #[.int .i64 0]
  have hW' := Lib.hid hW
  clear hW
  have k0 := hK.cell 0
  have k1 := hK.cell 1
  have k2 := hK.cell 2
  have k3 := hK.cell 3
  refine callsIn_of_wp_marks Tryz.func37 rfl trivial ?_ rfl
  simp only [Tryz.ntmps37, List.size_toArray, List.length_cons, List.length_nil, Nat.reduceAdd, Nat.reduceSub, Array.replicate_succ, Array.replicate_zero, List.push_toArray, List.append_toArray, List.nil_append, List.cons_append]
  gi_wp2_with fail
  refine ⟨trivial, ?_⟩
  rw [← hW'.out]
  refine (hM _ _).mono ?_
  rintro e w1 ⟨rfl, b1⟩
  have hS1 := hS.below b1 hS.lt
  have hE1 := hE.below b1 hE.lt
  have hL1 := hL.below b1 hL.lt
  have l0 := hL1.cell 0
  have s0 := hS1.cell 0
  have f0 := hS1.frozen 0
  have s1 := hS1.cell 1
  have f1 := hS1.frozen 1
  have s2 := hS1.cell 2
  have f2 := hS1.frozen 2
  have s3 := hS1.cell 3
  have f3 := hS1.frozen 3
  have s4 := hS1.cell 4
  have f4 := hS1.frozen 4
  have s5 := hS1.cell 5
  have f5 := hS1.frozen 5
  have t0 := hE1.cell 0
  have t1 := hE1.frozen 0
  gi_wp2
  have hS8 := ((((((hS1.set_ 0 (.int .i64 0)).set_ 1 (.int .i64 0)).set_ 2 (.int .i64 0)).set_ 3 (.int .i64 0)).set_ 4 (.int .i64 0)).set_ 5 (.slice none 0 0)).far (p := ⟨w.heap.size + 1 + 1 + 1, 0, none⟩) (show w.heap.size + 1 + 1 ≠ w.heap.size + 1 + 1 + 1 by omega) (.int .i64 1)
  have far := fun (w9 : World) (i : Nat) (u : Value) (h9 : Blk w9 (w.heap.size + 1 + 1 + 1) 42 #[.int .i64 0]) => h9.far (p := ⟨w.heap.size + 1 + 1, i, none⟩) (show w.heap.size + 1 + 1 + 1 ≠ w.heap.size + 1 + 1 by omega) u
  have hE8 := (far _ 5 (.slice none 0 0) (far _ 4 (.int .i64 0) (far _ 3 (.int .i64 0) (far _ 2 (.int .i64 0) (far _ 1 (.int .i64 0) (far _ 0 (.int .i64 0) hE1)))))).set_ 0 (.int .i64 1)
  have hB1 := hB.trans (b1.mono hB.size)
  have q0 := hS8.cell 0
  have q1 := hS8.cell 1
  have q2 := hS8.cell 2
  have q3 := hS8.cell 3
  have q4 := hS8.cell 4
  have q5 := hS8.cell 5
  have q6 := hE8.cell 0
  refine ⟨.tuple #[.agg #[.int .i64 0, .int .i64 0, .int .i64 0, .int .i64 0, .int .i64 0, .slice none 0 0], .int .i64 1], ?_, ⟨_, rfl, OwnBs.nil _ _ _, ?_⟩⟩
  · simp at q0 q1 q2 q3 q4 q5 q6
    simp [results, Tryz.f37, go_sem, q0, q1, q2, q3, q4, q5, q6]
  · exact bset (bset (bset (bset (bset (bset (bset hB1 (by omega) _) (by omega) _) (by omega) _) (by omega) _) (by omega) _) (by omega) _) (by omega) _
set_option maxRecDepth 100000 in
set_option maxHeartbeats 4000000 in
theorem of_large (k z m o : Int) (v : Value) (l : List Int) (w : World) (h : IsI w v l) (hmay : mayB k z m o = true) (hl : ¬ l.length ≤ 4096) :
    CallsIn Fence.wide 9 Tryz.prog 37 #[.agg #[.int .i64 k, .int .i64 z, .int .i64 m, .int .i64 o], v] w fun e w' => ∃ x, e = .returned (.tuple #[.agg #[.int .i64 0, .int .i64 0, .int .i64 0, .int .i64 0, .int .i64 0, x], .int .i64 6]) ∧ OwnBs w' w.heap.size w.heap.size x [] ∧ Below w.heap.size w w' := by
  obtain ⟨A, c, rfl, _, _⟩ := id h.form
  have hM := fun n w => (callsIn_wide (n := n)).2 (tmay_any k z m o w)
  rw [hmay] at hM
  have hl1 : decide ((4096 : Int) < (l.length : Int)) = true := decide_eq_true (by omega)
  have hl2 : decide (4096 < l.length) = true := decide_eq_true (by omega)
  have hl3 : (4096 : Int) < (l.length : Int) := by omega
  obtain ⟨W0, hW, hK, hL, hS, hE, hB⟩ := box4t w 23 62 26 42 #[.int .i64 k, .int .i64 z, .int .i64 m, .int .i64 o] #[.slice A l.length c] #[.int .i64 0, .int .i64 0, .int .i64 0, .int .i64 0, .int .i64 0, .slice none 0 0] #[.int .i64 0]
  have hW' := Lib.hid hW
  clear hW
  have k0 := hK.cell 0
  have k1 := hK.cell 1
  have k2 := hK.cell 2
  have k3 := hK.cell 3
  refine callsIn_of_wp_marks Tryz.func37 rfl trivial ?_ rfl
  simp only [Tryz.ntmps37, List.size_toArray, List.length_cons, List.length_nil, Nat.reduceAdd, Nat.reduceSub, Array.replicate_succ, Array.replicate_zero, List.push_toArray, List.append_toArray, List.nil_append, List.cons_append]
  gi_wp2_with fail
  refine ⟨trivial, ?_⟩
  rw [← hW'.out]
  refine (hM _ _).mono ?_
  rintro e w1 ⟨rfl, b1⟩
  have hS1 := hS.below b1 hS.lt
  have hE1 := hE.below b1 hE.lt
  have hL1 := hL.below b1 hL.lt
  have l0 := hL1.cell 0
  have s0 := hS1.cell 0
  have f0 := hS1.frozen 0
  have s1 := hS1.cell 1
  have f1 := hS1.frozen 1
  have s2 := hS1.cell 2
  have f2 := hS1.frozen 2
  have s3 := hS1.cell 3
  have f3 := hS1.frozen 3
  have s4 := hS1.cell 4
  have f4 := hS1.frozen 4
  have s5 := hS1.cell 5
  have f5 := hS1.frozen 5
  have t0 := hE1.cell 0
  have t1 := hE1.frozen 0
  gi_wp2
  have hS8 := ((((((hS1.set_ 0 (.int .i64 0)).set_ 1 (.int .i64 0)).set_ 2 (.int .i64 0)).set_ 3 (.int .i64 0)).set_ 4 (.int .i64 0)).set_ 5 (.slice none 0 0)).far (p := ⟨w.heap.size + 1 + 1 + 1, 0, none⟩) (show w.heap.size + 1 + 1 ≠ w.heap.size + 1 + 1 + 1 by omega) (.int .i64 6)
  have far := fun (w9 : World) (i : Nat) (u : Value) (h9 : Blk w9 (w.heap.size + 1 + 1 + 1) 42 #[.int .i64 0]) => h9.far (p := ⟨w.heap.size + 1 + 1, i, none⟩) (show w.heap.size + 1 + 1 + 1 ≠ w.heap.size + 1 + 1 by omega) u
  have hE8 := (far _ 5 (.slice none 0 0) (far _ 4 (.int .i64 0) (far _ 3 (.int .i64 0) (far _ 2 (.int .i64 0) (far _ 1 (.int .i64 0) (far _ 0 (.int .i64 0) hE1)))))).set_ 0 (.int .i64 6)
  have hB1 := hB.trans (b1.mono hB.size)
  have q0 := hS8.cell 0
  have q1 := hS8.cell 1
  have q2 := hS8.cell 2
  have q3 := hS8.cell 3
  have q4 := hS8.cell 4
  have q5 := hS8.cell 5
  have q6 := hE8.cell 0
  refine ⟨.tuple #[.agg #[.int .i64 0, .int .i64 0, .int .i64 0, .int .i64 0, .int .i64 0, .slice none 0 0], .int .i64 6], ?_, ⟨_, rfl, OwnBs.nil _ _ _, ?_⟩⟩
  · simp at q0 q1 q2 q3 q4 q5 q6
    simp [results, Tryz.f37, go_sem, q0, q1, q2, q3, q4, q5, q6]
  · exact bset (bset (bset (bset (bset (bset (bset hB1 (by omega) _) (by omega) _) (by omega) _) (by omega) _) (by omega) _) (by omega) _) (by omega) _
theorem tof_own (k z m o : Int) (v : Value) (l : List Int) (w : World) (h : IsI w v l) (hi : ∀ x ∈ l, I64 x) :
    Calls Tryz.prog 37 #[.agg #[.int .i64 k, .int .i64 z, .int .i64 m, .int .i64 o], v] w fun e w' => ∃ x, e = .returned (.tuple #[.agg #[.int .i64 (ofS k z m o l).1, .int .i64 (ofS k z m o l).2.1, .int .i64 (ofS k z m o l).2.2.1, .int .i64 (ofS k z m o l).2.2.2.1, .int .i64 (ofS k z m o l).2.2.2.2.1, x], .int .i64 (ofE k z m o l)]) ∧ OwnBs w' w.heap.size w.heap.size x (ofS k z m o l).2.2.2.2.2 ∧ Below w.heap.size w w' := by
  by_cases hmay : mayB k z m o = true
  · by_cases hl : l.length ≤ 4096
    · obtain ⟨Z, rfl, z1, z2⟩ := size_of hmay
      obtain ⟨A, c, rfl, _, _⟩ := id h.form
      exact callsIn_wide.1 (of_main k m o Z A c l w h hmay z1 z2 hl hi)
    · have e : ofE k z m o l = 6 := by unfold ofE; rw [if_pos hmay, if_neg hl]
      have e2 : ofS k z m o l = (0, 0, 0, 0, 0, []) := if_neg (by rw [e]; decide)
      rw [e, e2]
      exact callsIn_wide.1 (of_large k z m o v l w h hmay hl)
  · have e : ofE k z m o l = 1 := by unfold ofE; rw [if_neg hmay]
    have e2 : ofS k z m o l = (0, 0, 0, 0, 0, []) := if_neg (by rw [e]; decide)
    rw [e, e2]
    exact callsIn_wide.1 (of_wrong k z m o v l w h (by simpa using hmay))
theorem tof_any (k z m o : Int) (v : Value) (l : List Int) (w : World) (h : IsI w v l) (hi : ∀ x ∈ l, I64 x) :
    Calls Tryz.prog 37 #[.agg #[.int .i64 k, .int .i64 z, .int .i64 m, .int .i64 o], v] w fun e w' => ∃ s, e = .returned (.tuple #[s, .int .i64 (ofE k z m o l)]) ∧ IsSt w' s (ofS k z m o l) ∧ Below w.heap.size w w' :=
  (tof_own k z m o v l w h hi).mono fun _ _ ⟨_, e, hx, hB⟩ => ⟨_, e, ⟨_, rfl, hx.is⟩, hB⟩
end Go.Proofs.YtdnjdglekifhpaaGreat
namespace Go.Proofs.YtdnjdglekifhpaaGreat
open Go.RowKit
attribute [local go_sem ↓] Go.wp_at_zero Go.wp_at_succ
theorem few_of {k z m o : Int} {l : List Int} (hi : ∀ x ∈ l, I64 x) (h : ofE k z m o l = 0) : FewB (bksTo k z m o l (partN z.toNat l.length)) ∧ LongB (bksTo k z m o l (partN z.toNat l.length)) ∧ (∀ b ∈ bksTo k z m o l (partN z.toNat l.length), LoadB b) := by
  obtain ⟨h1, h2, h3⟩ := ofE_zero h
  obtain ⟨Z, rfl, z1, z2⟩ := size_of h1
  have hN := partN_le (n := l.length) z1
  have hm := of_min h
  have key : ∀ b ∈ bksTo k (Z : Int) m o l (partN (Z : Int).toNat l.length), bkLen b ≤ 4096 ∧ LoadB b := by
    intro b hb
    unfold bksTo at hb
    obtain ⟨i, hi', rfl⟩ := List.mem_map.1 hb
    have hlt := List.mem_range.1 hi'
    have ho := odd_part h3 hlt
    rw [Int.toNat_natCast] at *
    have hpl := partZ_len Z l i
    have hpi : ∀ x ∈ partZ Z l i, I64 x := fun x hx => hi x (partZ_mem hx)
    obtain ⟨g1, g2, g3, g4, g5⟩ := bk_good h1 (n := l.length) (p := partZ Z l i) hpi (by omega) ho
    refine ⟨by rw [g2, hpl]; omega, ?_⟩
    have hgr := great_in hpi (oddP_min ho)
    have hg0 := great_nonneg (partZ Z l i)
    obtain ⟨k0, k3, _⟩ := mayB_iff.1 h1
    rcases kindOf_or (k := k) (m := m) (o := o) l.length (partZ Z l i) with ⟨e, _⟩ | ⟨e, _⟩
    · rw [e]; exact .inl rfl
    · rw [e]
      have hb : bkOf k (partZ Z l i) = (k, great (partZ Z l i), packC k (partZ Z l i), []) := if_neg (by omega)
      rw [hb]
      exact .inr ⟨k0, k3, hg0, hgr⟩
  refine ⟨⟨?_, fun b hb => by have := (key b hb).1; omega⟩, fun b hb => ?_, fun b hb => (key b hb).2⟩
  · rw [bksTo_len, Int.toNat_natCast]; omega
  · have := (key b hb).1
    unfold bkLen at this
    omega
end Go.Proofs.YtdnjdglekifhpaaGreat
namespace Go.Proofs.YtdnjdglekifhpaaGreat
def NearTo (l m : List Int) (q : List Rat) : Prop := m.length = l.length ∧ q.length = l.length ∧ ∀ (i : Nat) (x y : Int) (b : Rat), l[i]? = some x → m[i]? = some y → q[i]? = some b → 0 ≤ b ∧ ((y : Rat) - x ≤ b ∧ (x : Rat) - y ≤ b)
theorem NearTo.nil : NearTo [] [] [] := ⟨rfl, rfl, fun _ _ _ _ h => by simp at h⟩
theorem NearTo.append {l l' m m' : List Int} {q q' : List Rat} (h : NearTo l m q) (h' : NearTo l' m' q') : NearTo (l ++ l') (m ++ m') (q ++ q') := by
  obtain ⟨a1, a2, a3⟩ := h
  obtain ⟨b1, b2, b3⟩ := h'
  refine ⟨by simp [a1, b1], by simp [a2, b2], fun i x y b h1 h2 h3 => ?_⟩
  rcases Nat.lt_or_ge i l.length with hi | hi
  · rw [List.getElem?_append_left hi] at h1
    rw [List.getElem?_append_left (by omega)] at h2 h3
    exact a3 i x y b h1 h2 h3
  · rw [List.getElem?_append_right hi] at h1
    rw [List.getElem?_append_right (by omega)] at h2 h3
    rw [a1] at h2
    rw [a2] at h3
    exact b3 _ x y b h1 h2 h3
theorem mk_mul_nat (z : Int) {d : Nat} (hd : 0 < d) : mkRat z d * ((d : Nat) : Rat) = (z : Rat) := by
  rw [Rat.mkRat_eq_div, Rat.div_mul_cancel]
  intro e
  have : (((d : Nat) : Int) : Rat) = ((0 : Int) : Rat) := e
  rw [Rat.intCast_inj] at this
  omega
theorem near_bound {n : Nat} (hn : n < 4) {l : List Int} (ho : l.any (oddB (sgn (n : Nat))) = false) {x : Int} (hx : x ∈ l) :
    0 ≤ boundQ (n : Nat) (great l) ∧ (((loadZ n (great l) (codeOf n x (max (great l) 1)) : Int) : Rat) - x ≤ boundQ (n : Nat) (great l) ∧ (x : Rat) - ((loadZ n (great l) (codeOf n x (max (great l) 1)) : Int) : Rat) ≤ boundQ (n : Nat) (great l)) := by
  have hk := near_loaded hn ho hx
  have hd := (den_in (k := (n : Nat)) (by omega) (by omega)).1
  have hg0 := (gz_in (k := (n : Nat)) (by omega) (by omega)).1
  have hgr := great_nonneg l
  have e4 : ((n : Nat) : Int) ≠ 4 := by omega
  have eb : boundQ (n : Nat) (great l) * ((2 * den (n : Nat) : Int) : Rat) = ((great l * gz (n : Nat) + den (n : Nat) : Int) : Rat) := by
    unfold boundQ
    rw [if_neg e4]
    have p1 := mk_mul_nat (gz (n : Nat)) (d := (2 * den (n : Nat)).natAbs) (by omega)
    have p2 := mk_mul_nat 1 (d := 2) (by omega)
    have p3 : (((2 * den (n : Nat)).natAbs : Nat) : Rat) = ((2 * den (n : Nat) : Int) : Rat) := by
      have h : (((2 * den (n : Nat)).natAbs : Nat) : Int) = 2 * den (n : Nat) := by omega
      rw [← h]; rfl
    rw [p3] at p1
    have p4 : ((2 : Nat) : Rat) = 2 := rfl
    have p5 : ((2 : Int) : Rat) = 2 := rfl
    have p6 : ((1 : Int) : Rat) = 1 := rfl
    rw [p4, p6] at p2
    rw [Rat.intCast_mul, p5] at p1
    rw [Rat.intCast_add, Rat.intCast_mul, Rat.intCast_mul, p5]
    generalize mkRat (gz (n : Nat)) (2 * den (n : Nat)).natAbs = u at *
    generalize mkRat 1 2 = v at *
    generalize ((den (n : Nat) : Int) : Rat) = D at *
    generalize ((gz (n : Nat) : Int) : Rat) = G at *
    generalize ((great l : Int) : Rat) = S at *
    grind
  generalize loadZ n (great l) (codeOf n x (max (great l) 1)) = y at *
  generalize boundQ (n : Nat) (great l) = b at *
  generalize den (n : Nat) = D at *
  generalize gz (n : Nat) = G at *
  generalize great l = S at *
  have hD : (0 : Rat) < ((2 * D : Int) : Rat) := by
    have h : ((0 : Int) : Rat) < ((2 * D : Int) : Rat) := by rw [Rat.intCast_lt_intCast]; omega
    exact h
  have key : ∀ u : Int, u * (2 * D) ≤ S * G + D → (u : Rat) ≤ b := by
    intro u hu
    refine Rat.le_of_mul_le_mul_right ?_ hD
    rw [eb, ← Rat.intCast_mul, Rat.intCast_le_intCast]
    exact hu
  have hSG : 0 ≤ S * G := Int.mul_nonneg hgr (by omega)
  have ha : ∀ u : Int, u ≤ (((x - y).natAbs : Nat) : Int) → u * (2 * D) ≤ S * G + D := by
    intro u hu
    exact Int.le_trans (Int.mul_le_mul_of_nonneg_right hu (by omega)) hk
  refine ⟨?_, ?_, ?_⟩
  · have := key 0 (by omega)
    exact this
  · have := key (y - x) (ha _ (by omega))
    rw [Rat.intCast_sub] at this
    exact this
  · have := key (x - y) (ha _ (by omega))
    rw [Rat.intCast_sub] at this
    exact this
theorem near_block {k m o : Int} {n : Nat} {p : List Int} {kn : Nat} (hkn : k = kn) (hk4 : kn < 4) (ho : oddP (kindOf k m o n p) p = false) :
    NearTo p (bkNums (bkOf (kindOf k m o n p) p)) (rowQ (bkOf (kindOf k m o n p) p)) := by
  subst hkn
  rcases kindOf_or (k := (kn : Int)) (m := m) (o := o) n p with ⟨e, _⟩ | ⟨e, _⟩
  · rw [e]
    have hb : bkOf 4 p = (4, 0, [], p) := if_pos rfl
    rw [hb]
    have e1 : bkNums (4, 0, [], p) = p := if_pos rfl
    have e2 : rowQ (4, 0, [], p) = List.replicate p.length (0 : Rat) := by
      unfold rowQ bkLen
      simp only [List.length_nil, Nat.zero_add]
      rw [show boundQ 4 0 = 0 from if_pos rfl]
    rw [e1, e2]
    refine ⟨rfl, by simp, fun i x y b h1 h2 h3 => ?_⟩
    rw [h1] at h2
    cases h2
    have hi := (List.getElem?_eq_some_iff.1 h3).1
    rw [List.getElem?_replicate] at h3
    split at h3
    · cases h3
      refine ⟨Rat.le_refl, ?_, ?_⟩ <;> grind
    · cases h3
  · rw [e]
    have hb : bkOf (kn : Int) p = ((kn : Int), great p, packC (kn : Int) p, []) := if_neg (by omega)
    rw [hb]
    rw [e] at ho
    have ho' : p.any (oddB (sgn (kn : Nat))) = false := by
      unfold oddP at ho
      rw [show (((kn : Nat) : Int) == 4) = false by simp; omega, Bool.false_or] at ho
      exact ho
    have e1 : bkNums ((kn : Int), great p, packC (kn : Int) p, []) = loadC kn (great p) (packC (kn : Int) p) := by
      unfold bkNums
      simp only
      rw [if_neg (by omega), Int.toNat_natCast]
    have e2 : rowQ ((kn : Int), great p, packC (kn : Int) p, []) = List.replicate p.length (boundQ (kn : Int) (great p)) := by
      unfold rowQ bkLen packC
      simp
    rw [e1, e2]
    refine ⟨by simp [loadC, packC], by simp, fun i x y b h1 h2 h3 => ?_⟩
    rw [List.getElem?_replicate] at h3
    split at h3
    · cases h3
      unfold loadC packC at h2
      rw [List.getElem?_map, List.getElem?_map, h1] at h2
      cases h2
      exact near_bound hk4 ho' (List.mem_of_getElem? h1)
    · cases h3
theorem near_parts {k m o : Int} {l : List Int} {Z kn : Nat} (hkn : k = kn) (hk4 : kn < 4) : ∀ N, (∀ i, i < N → oddP (kindOf k m o l.length (partZ Z l i)) (partZ Z l i) = false) →
    NearTo (l.take (N * Z)) (loadS (bksTo k (Z : Int) m o l N)) (quantS (bksTo k (Z : Int) m o l N))
  | 0, _ => by simpa [bksTo, loadS, quantS] using NearTo.nil
  | N + 1, h => by
    have ih := near_parts hkn hk4 N fun i hi => h i (by omega)
    have hb := near_block hkn hk4 (h N (by omega))
    rw [bksTo_succ, quantS_snoc]
    unfold loadS at *
    rw [List.flatMap_append, List.flatMap_cons, List.flatMap_nil, List.append_nil, Int.toNat_natCast]
    have e : l.take ((N + 1) * Z) = l.take (N * Z) ++ partZ Z l N := by
      unfold partZ
      rw [Nat.add_mul, Nat.one_mul, List.take_add]
    rw [e]
    exact ih.append hb
theorem near_all {k z m o : Int} {l : List Int} (h : ofE k z m o l = 0) :
    NearTo l (loadS (bksTo k z m o l (partN z.toNat l.length))) (quantS (bksTo k z m o l (partN z.toNat l.length))) := by
  obtain ⟨h1, h2, h3⟩ := ofE_zero h
  obtain ⟨Z, rfl, z1, z2⟩ := size_of h1
  obtain ⟨kn, hkn, hk4⟩ := toNat_kind h1
  have hp := fun i (hi : i < partN (Z : Int).toNat l.length) => odd_part h3 hi
  simp only [Int.toNat_natCast] at *
  have := near_parts hkn hk4 (partN Z l.length) hp
  rwa [List.take_of_length_le (partN_all z1)] at this
theorem steps_zero (n x : Int) (b : Rat) (h : (n : Rat) - x ≤ b ∧ (x : Rat) - n ≤ b) : stepsQ n 0 (x : Rat) ≤ b := by
  rw [steps_le]
  have e : ∀ u : Int, mkRat u (2 ^ 0) = (u : Rat) := fun u => by
    rw [Nat.pow_zero]
    rw [Rat.mkRat_eq_div]
    show (u : Rat) / 1 = u
    grind
  rw [e, e]
  have p6 : ((1 : Int) : Rat) = 1 := rfl
  rw [p6, Rat.mul_one]
  exact h
theorem sz_bound {b : Bk} (h : LoadB b) : BQ (boundQ b.1 b.2.1) 20 := by
  obtain ⟨k, s, cs, wd⟩ := b
  unfold LoadB at h
  simp only at *
  unfold boundQ
  split
  · exact (BQ.int (n := 0) (by unfold W64; omega)).more (by omega)
  · rename_i h4
    obtain ⟨k0, k3, s0, s1⟩ := h.resolve_left h4
    have hd := den_in k0 k3
    have hg := gz_in k0 k3
    have b1 := BQ.int (n := s) (by unfold W64; omega)
    have b2 : BQ (mkRat (gz k) (2 * den k).natAbs) 1 := BQ.mk (Sz.u64 (by unfold W64; omega)) (Sz.u64 (by unfold W64; omega)) (by omega)
    have b3 : BQ (mkRat 1 2) 1 := BQ.mk Sz.one (Sz.u64 (by unfold W64; omega)) (by omega)
    exact ((b1.mul b2).add b3).more (by omega)
theorem sz_quant {bs : List Bk} (h : ∀ b ∈ bs, LoadB b) {q : Rat} (hq : q ∈ quantS bs) : BQ q 20 := by
  unfold quantS at hq
  obtain ⟨b, hb, hq⟩ := List.mem_flatMap.1 hq
  unfold rowQ at hq
  obtain ⟨_, rfl⟩ := List.mem_replicate.1 hq
  exact sz_bound (h b hb)
theorem sz_steps {n : Int} {k m : Nat} {r : Rat} (hn : In64 n) (hk : k ≤ 40) (sr : BQ r m) : BQ (stepsQ n k r) (2 * m + 130) := by
  unfold stepsQ divQ
  have sn := sz_man hn hk
  have h1 : In64 1 := ⟨by omega, by omega⟩
  have st := sz_man h1 hk
  have sd : BQ (mkRat n (2 ^ k) - r) (2 * (41 + m) + 1) := by rw [Rat.sub_eq_add_neg]; exact sn.add sr.neg
  have sd2 := sd.abs
  rw [decide_eq_false (by rw [num_neg_iff, Rat.not_lt]; exact Rat.le_of_lt (stepP k).1)]
  have hs : sided false (mkRat 1 (2 ^ k)).den = ((mkRat 1 (2 ^ k)).den : Int) := by simp [sided]
  rw [hs]
  exact BQ.mk ((sd2.1.imul (b := ((mkRat 1 (2 ^ k)).den : Int)) (by simpa using st.2)).more (by omega)) ((sd2.2.mul st.1).more (by omega)) (by omega)
theorem NearTo.at_ {l m : List Int} {q : List Rat} (h : NearTo l m q) {i : Nat} (hi : i < l.length) : ∃ h2 : i < q.length, 0 ≤ q[i] ∧ stepsQ (iat m i) 0 (iat l i : Rat) ≤ q[i] := by
  obtain ⟨h1, h2, h3⟩ := h
  have hq : i < q.length := by omega
  have e : ∀ (a : List Int), i < a.length → a[i]? = some (iat a i) := fun a ha => by unfold iat; rw [List.getElem?_eq_getElem ha]; rfl
  obtain ⟨k1, k2⟩ := h3 i _ _ _ (e l hi) (e m (by omega)) (List.getElem?_eq_getElem hq)
  exact ⟨hq, k1, steps_zero _ _ _ k2⟩
theorem load_in {k z m o : Int} {l : List Int} (hi : ∀ x ∈ l, I64 x) (h : ofE k z m o l = 0) {x : Int} (hx : x ∈ loadS (ofS k z m o l).2.2.2.2.2) : I64 x := by
  have h1 := great_in hi (of_min h)
  have h2 := load_great_of hi h
  have h3 := great_mem hx
  unfold I64
  omega
end Go.Proofs.YtdnjdglekifhpaaGreat
namespace Go.Proofs.YtdnjdglekifhpaaGreat
open Go.RowKit
attribute [local go_sem ↓] Go.wp_at_zero Go.wp_at_succ
set_option maxRecDepth 100000 in
set_option maxHeartbeats 8000000 in
theorem TrackKept_many (k z m o : Int) (A : Option Addr) (C : Nat) (l : List Int) (w : World) (h : IsI w (.slice A l.length C) l) (_hi : ∀ x ∈ l, I64 x) (hn : ¬ l.length ≤ 24) :
    Calls Tryz.prog 7 #[.agg #[.int .i64 k, .int .i64 z, .int .i64 m, .int .i64 o], .slice A l.length C] w fun e w' => e = .returned (.bool true) ∧ Below w.heap.size w w' := by
  have hA := fun w => alive20_any w
  have n1 : decide ((24 : Int) < (l.length : Int)) = true := decide_eq_true (by omega)
  have n2 : decide (24 < l.length) = true := decide_eq_true (by omega)
  obtain ⟨g, hg⟩ : ∃ g, g = w.heap.size := ⟨_, rfl⟩
  obtain ⟨Y0, eY0, hKp, bY0⟩ := box1 w 23 #[.int .i64 k, .int .i64 z, .int .i64 m, .int .i64 o]
  have zY0 : Y0.heap.size = g + 1 := by rw [eY0, World.size_alloc, ← hg]
  rw [← hg] at hKp
  replace h := h.below bY0
  have hB := bY0
  have hgw : w.heap.size ≤ g := by omega
  have EY := Lib.hid (And.intro hg eY0)
  clear hg eY0 zY0
  obtain ⟨c0, c1, c2, c3⟩ := hKp.q4
  go_enter Tryz.func7, Tryz.ntmps7
  go_wp2_with fail
  rw [← EY.out.2, ← EY.out.1]
  refine (hA _).mono ?_
  rintro e w2 ⟨rfl, b2⟩
  replace h := h.below b2
  replace hKp := hKp.below b2 hKp.lt
  replace hB := hB.trans (b2.mono hB.size)
  clear c0 c1 c2 c3
  obtain ⟨c4, c5, c6, c7⟩ := hKp.q4
  go_wp2
  go_ret
  exact ⟨rfl, hB⟩
set_option maxRecDepth 100000 in
set_option maxHeartbeats 8000000 in
theorem TrackKept_err (k z m o : Int) (A : Option Addr) (C : Nat) (l : List Int) (w : World) (h : IsI w (.slice A l.length C) l) (hi : ∀ x ∈ l, I64 x) (hn : l.length ≤ 24) (he : ofE k z m o l = 1) :
    Calls Tryz.prog 7 #[.agg #[.int .i64 k, .int .i64 z, .int .i64 m, .int .i64 o], .slice A l.length C] w fun e w' => e = .returned (.bool true) ∧ Below w.heap.size w w' := by
  have hA := fun w => alive20_any w
  have n1 : decide ((24 : Int) < (l.length : Int)) = false := decide_eq_false (by omega)
  have n2 : decide (24 < l.length) = false := decide_eq_false (by omega)
  have hO := fun w h => tof_any k z m o (.slice A l.length C) l w h hi
  have e2 : ofS k z m o l = (0, 0, 0, 0, 0, []) := if_neg (by rw [he]; decide)
  rw [he, e2] at hO
  clear he e2
  obtain ⟨g, hg⟩ : ∃ g, g = w.heap.size := ⟨_, rfl⟩
  obtain ⟨Y0, eY0, hKp, bY0⟩ := box1 w 23 #[.int .i64 k, .int .i64 z, .int .i64 m, .int .i64 o]
  have zY0 : Y0.heap.size = g + 1 := by rw [eY0, World.size_alloc, ← hg]
  rw [← hg] at hKp
  replace h := h.below bY0
  have hB := bY0
  have hgw : w.heap.size ≤ g := by omega
  have EY := Lib.hid (And.intro hg eY0)
  clear hg eY0 zY0
  obtain ⟨c0, c1, c2, c3⟩ := hKp.q4
  go_enter Tryz.func7, Tryz.ntmps7
  go_wp2_with fail
  rw [← EY.out.2, ← EY.out.1]
  refine (hO _ h).mono ?_
  rintro e w2 ⟨s, rfl, ⟨x, rfl, hbs⟩, b2⟩
  replace h := h.below b2
  replace hKp := hKp.below b2 hKp.lt
  replace hB := hB.trans (b2.mono hB.size)
  clear c0 c1 c2 c3
  obtain ⟨c4, c5, c6, c7⟩ := hKp.q4
  obtain ⟨A1, C1, rfl, _, _⟩ := id hbs.len
  obtain ⟨V4, eV, hS, bV4⟩ := box1 w2 26 #[.int .i64 0, .int .i64 0, .int .i64 0, .int .i64 0, .int .i64 0, .slice A1 0 C1]
  obtain ⟨X4, eX⟩ : ∃ X, X = w2.heap.size := ⟨_, rfl⟩
  rw [← eX] at hS
  have lX4 : w.heap.size ≤ X4 := by rw [eX]; exact hB.size
  have dX4_hKp : g ≠ X4 := by have := hKp.lt; omega
  have EV4 := Lib.hid (And.intro eV eX)
  clear eV eX
  go_upto_region 4 with fail
  rw [← EV4.out.1, ← EV4.out.2]
  replace h := h.below bV4
  replace hKp := hKp.below bV4 hKp.lt
  replace hbs := hbs.below bV4
  replace hB := hB.trans (bV4.mono hB.size)
  clear c4 c5 c6 c7
  obtain ⟨c8, c9, c10, c11⟩ := hKp.q4
  obtain ⟨c12, c13, c14, c15, c16, c17⟩ := hS.q6
  go_wp2_with fail
  refine (hA _).mono ?_
  rintro e w6 ⟨rfl, b6⟩
  replace h := h.below b6
  replace hKp := hKp.below b6 hKp.lt
  replace hbs := hbs.below b6
  replace hS := hS.below b6 hS.lt
  replace hB := hB.trans (b6.mono hB.size)
  clear c8 c9 c10 c11 c12 c13 c14 c15 c16 c17
  obtain ⟨c18, c19, c20, c21⟩ := hKp.q4
  obtain ⟨c22, c23, c24, c25, c26, c27⟩ := hS.q6
  go_wp2
  go_ret
  exact ⟨rfl, hB⟩
set_option maxRecDepth 100000 in
set_option maxHeartbeats 8000000 in
theorem TrackKept_ok (k z m o : Int) (A : Option Addr) (C : Nat) (l : List Int) (w : World) (h : IsI w (.slice A l.length C) l) (hi : ∀ x ∈ l, I64 x) (hn : l.length ≤ 24) (he : ofE k z m o l = 0) :
    Calls Tryz.prog 7 #[.agg #[.int .i64 k, .int .i64 z, .int .i64 m, .int .i64 o], .slice A l.length C] w fun e w' => e = .returned (.bool true) ∧ Below w.heap.size w w' := by
  have hA := fun w => alive20_any w
  have n1 : decide ((24 : Int) < (l.length : Int)) = false := decide_eq_false (by omega)
  have n2 : decide (24 < l.length) = false := decide_eq_false (by omega)
  have hO := fun w h => tof_any k z m o (.slice A l.length C) l w h hi
  have e2 : ofS k z m o l = (k, z, m, o, (l.length : Int), bksTo k z m o l (partN z.toNat l.length)) := if_pos he
  rw [he, e2] at hO
  obtain ⟨hfb, hlb, hld⟩ := few_of hi he
  have hnear := near_all he
  have hsz := fun q hq => sz_quant hld (q := q) hq
  have hml := fun x hx => load_in hi he (x := x) hx
  rw [e2] at hml
  generalize bksTo k z m o l (partN z.toNat l.length) = bs at *
  have hqn := quantS_len bs
  have hQu := fun v w h => quant_any v (k, z, m, o, (l.length : Int), bs) w h hfb (by have := hnear.2.1; simp only; omega) hld
  have hLd := fun v w h => tload_any v (k, z, m, o, (l.length : Int), bs) w h hfb hld
  simp only at hQu hLd hml
  have hq1 := hnear.2.1
  have hm1 := hnear.1
  generalize quantS bs = qs at *
  generalize loadS bs = ms at *
  clear he e2 hfb hlb hld hqn
  obtain ⟨g, hg⟩ : ∃ g, g = w.heap.size := ⟨_, rfl⟩
  obtain ⟨Y0, eY0, hKp, bY0⟩ := box1 w 23 #[.int .i64 k, .int .i64 z, .int .i64 m, .int .i64 o]
  have zY0 : Y0.heap.size = g + 1 := by rw [eY0, World.size_alloc, ← hg]
  rw [← hg] at hKp
  replace h := h.below bY0
  have hB := bY0
  have hgw : w.heap.size ≤ g := by omega
  have EY := Lib.hid (And.intro hg eY0)
  clear hg eY0 zY0
  obtain ⟨c0, c1, c2, c3⟩ := hKp.q4
  go_enter Tryz.func7, Tryz.ntmps7
  go_wp2_with fail
  rw [← EY.out.2, ← EY.out.1]
  refine (hO _ h).mono ?_
  rintro e w2 ⟨s, rfl, ⟨x, rfl, hbs⟩, b2⟩
  replace h := h.below b2
  replace hKp := hKp.below b2 hKp.lt
  replace hB := hB.trans (b2.mono hB.size)
  clear c0 c1 c2 c3
  obtain ⟨c4, c5, c6, c7⟩ := hKp.q4
  simp only at hbs
  obtain ⟨A1, C1, rfl, _, _⟩ := id hbs.len
  have hst : IsSt w2 (.agg #[.int .i64 k, .int .i64 z, .int .i64 m, .int .i64 o, .int .i64 (l.length : Int), .slice A1 bs.length C1]) (k, z, m, o, (l.length : Int), bs) := ⟨_, rfl, hbs⟩
  obtain ⟨V4, eV, hS, bV4⟩ := box1 w2 26 #[.int .i64 k, .int .i64 z, .int .i64 m, .int .i64 o, .int .i64 (l.length : Int), .slice A1 bs.length C1]
  obtain ⟨X4, eX⟩ : ∃ X, X = w2.heap.size := ⟨_, rfl⟩
  rw [← eX] at hS
  have lX4 : w.heap.size ≤ X4 := by rw [eX]; exact hB.size
  have dX4_hKp : g ≠ X4 := by have := hKp.lt; omega
  have EV4 := Lib.hid (And.intro eV eX)
  clear eV eX
  go_upto_region 4 with fail
  rw [← EV4.out.1, ← EV4.out.2]
  replace h := h.below bV4
  replace hKp := hKp.below bV4 hKp.lt
  replace hst := hst.below bV4
  replace hB := hB.trans (bV4.mono hB.size)
  clear c4 c5 c6 c7
  obtain ⟨c8, c9, c10, c11⟩ := hKp.q4
  obtain ⟨c12, c13, c14, c15, c16, c17⟩ := hS.q6
  go_wp2_with fail
  refine (hQu _ _ hst).mono ?_
  rintro e w6 ⟨v2, rfl, h2, b6⟩
  replace h := h.below b6
  replace hKp := hKp.below b6 hKp.lt
  replace hst := hst.below b6
  replace hS := hS.below b6 hS.lt
  replace hB := hB.trans (b6.mono hB.size)
  clear c8 c9 c10 c11 c12 c13 c14 c15 c16 c17
  obtain ⟨c18, c19, c20, c21⟩ := hKp.q4
  obtain ⟨c22, c23, c24, c25, c26, c27⟩ := hS.q6
  obtain ⟨A2, C2, rfl, _, _⟩ := id h2.len
  rw [hq1] at h2
  rw [hq1]
  go_wp2_with fail
  refine (hLd _ _ hst).mono ?_
  rintro e w8 ⟨v3, rfl, h3, b8⟩
  replace h := h.below b8
  replace hKp := hKp.below b8 hKp.lt
  replace hst := hst.below b8
  replace hS := hS.below b8 hS.lt
  replace h2 := h2.below b8
  replace hB := hB.trans (b8.mono hB.size)
  clear c18 c19 c20 c21 c22 c23 c24 c25 c26 c27
  obtain ⟨c28, c29, c30, c31⟩ := hKp.q4
  obtain ⟨c32, c33, c34, c35, c36, c37⟩ := hS.q6
  obtain ⟨A3, C3, rfl, _, _⟩ := id h3.form
  rw [hm1] at h3
  rw [hm1]
  go_wp2_with fail
  go_loopw [9] (fun i wr => ∃ j : Nat, i = .int .i64 j ∧ j ≤ l.length ∧ Below w8.heap.size w8 wr) (fun i _ => l.length - (intOf i).toNat)
  case atStart => exact ⟨0, rfl, by omega, Below.refl _ _⟩
  case round =>
    obtain ⟨j, rfl, hj, bl⟩ := hrel
    replace h := h.below bl
    replace hKp := hKp.below bl hKp.lt
    replace hS := hS.below bl hS.lt
    replace h2 := h2.below bl
    replace h3 := h3.below bl
    replace hB := hB.trans (bl.mono hB.size)
    clear c28 c29 c30 c31 c32 c33 c34 c35 c36 c37
    obtain ⟨c38, c39, c40, c41⟩ := hKp.q4
    obtain ⟨c42, c43, c44, c45, c46, c47⟩ := hS.q6
    by_cases hlt : j < l.length
    · obtain ⟨hjq, q0, hst⟩ := hnear.at_ hlt
      obtain ⟨ad, rfl, x0⟩ := h.at_ hlt
      obtain ⟨ad3, rfl, y0⟩ := h3.at_ (k := j) (by omega)
      obtain ⟨ad2, c', u1, p1, r1, e1, _, z0, z1, z2, hq⟩ := h2.at_ hjq
      obtain ⟨rfl, -, -⟩ := Value.slice.inj e1
      have sq := hsz _ (List.getElem_mem hjq)
      have mi := hml _ (iat_mem (l := ms) (k := j) (by omega))
      have li := hi _ (iat_mem hlt)
      generalize qs[j] = q at *
      generalize iat ms j = y at *
      generalize iat l j = x at *
      obtain ⟨s1, A4, L4, C4, D4, M4, E4, e3, hq⟩ := hq.opn
      obtain ⟨rfl, rfl, rfl⟩ : s1 = u1 ∧ p1 = .slice A4 L4 C4 ∧ r1 = .slice D4 M4 E4 := by
        injection e3 with e3; simp only [Array.mk.injEq, List.cons.injEq, and_true] at e3; exact ⟨by have := e3.1; injection this with this; exact this.symm, e3.2.1, e3.2.2⟩
      obtain rfl : s1 = false := by rw [hq.parts.1]; exact decide_eq_false (by rw [num_neg_iff, Rat.not_lt]; exact q0)
      have hcm := (cmpQ_le_iff _ _).2 hst
      have hOf := fun w => rqof_any x (by have := li.1; omega) (by have := li.2; omega) w
      have hSt := fun u w hu => rsteps_any y 0 u (x : Rat) w (by omega) ⟨by have := mi.1; omega, by have := mi.2; omega⟩ hu ((BQ.int (by have := li.1; have := li.2; unfold W64; omega)).more (by omega))
      rw [show ((0 : Nat) : Int) = 0 from rfl] at hSt
      have sst := sz_steps (n := y) (k := 0) (r := (x : Rat)) (m := 1) ⟨by have := mi.1; omega, by have := mi.2; omega⟩ (by omega) (BQ.int (by have := li.1; have := li.2; unfold W64; omega))
      have hCm := fun u v w hu hv => rqcmp_any u v (stepsQ y 0 (x : Rat)) q w hu hv (sst.more (by omega)) (sq.more (by omega))
      generalize stepsQ y 0 (x : Rat) = rst at *
      generalize (x : Rat) = rx at *
      generalize cmpQ rst q = cm at *
      have hcm2 : decide (0 < cm) = false := decide_eq_false (by omega)
      have i0 : (0 : Int) ≤ (j : Int) := by omega
      have i1 : (j : Int) < (l.length : Int) := by omega
      clear e1 e3 q0 hst sq mi li sst h h2 h3 hq1 hm1 hnear hsz hml hn n1 n2
      have hB := Below.refl wr.heap.size wr
      go_upto_region 13 with fail
      replace hB := hB.drew
      replace hKp := hKp.drew
      replace hS := hS.drew
      replace x0 := cellAU (bdrew _) x0
      replace y0 := cellAU (bdrew _) y0
      replace z0 := cellAU (bdrew _) z0
      replace z1 := cellAU (bdrew _) z1
      replace z2 := cellAU (bdrew _) z2
      replace hq := hq.below (bdrew _)
      clear c38 c39 c40 c41 c42 c43 c44 c45 c46 c47
      refine wp_region_noPanic ?_
      refine wp_region_held_drew (S := fun w' => w'.cell? (ad.add j) = some (.int .i64 x) ∧ w'.cell? (ad3.add j) = some (.int .i64 y) ∧ w'.cell? (ad2.add (j * 3)) = some (.bool false) ∧ w'.cell? ⟨(ad2.add (j * 3)).block, (ad2.add (j * 3)).off + 1, none⟩ = some (.slice A4 L4 C4) ∧ w'.cell? ⟨(ad2.add (j * 3)).block, (ad2.add (j * 3)).off + 2, none⟩ = some (.slice D4 M4 E4)) (by kernel_rfl) ?_ (fun hHeld => ?_)
      · exact ⟨x0, y0, z0, z1, z2⟩
      obtain ⟨wd13_1, hwd⟩ : ∃ q, q = wr.drew := ⟨_, rfl⟩
      rw [← hwd] at hB hKp hS x0 y0 z0 z1 z2 hq hHeld ⊢
      clear hwd
      refine tkH 0 rfl (v := ?v1) ?h1 ?r1
      case h1 => intro w hSw; (try dsimp only at hSw); go_simp; try (with_reducible rfl)
      refine tkH 1 rfl (v := ?v2) ?h2 ?r2
      case h2 => intro w hSw; (try dsimp only at hSw); go_simp; try (with_reducible rfl)
      refine tkH 2 rfl (v := ?v3) ?h3 ?r3
      case h3 => intro w hSw; (try dsimp only at hSw); go_simp; try (with_reducible rfl)
      refine tkH 3 rfl (v := ?v4) ?h4 ?r4
      case h4 => intro w hSw; (try dsimp only at hSw); go_simp; try (with_reducible rfl)
      refine tkH 4 rfl (v := ?v5) ?h5 ?r5
      case h5 => intro w hSw; (try dsimp only at hSw); go_simp; try (with_reducible rfl)
      refine tkH 5 rfl (v := ?v6) ?h6 ?r6
      case h6 => intro w hSw; (try dsimp only at hSw); go_simp; try (with_reducible rfl)
      refine tkH 6 rfl (v := ?v7) ?h7 ?r7
      case h7 => intro w hSw; (try dsimp only at hSw); go_simp; try (with_reducible rfl)
      refine tkH 7 rfl (v := ?v8) ?h8 ?r8
      case h8 => intro w hSw; (try dsimp only at hSw); go_simp; try (with_reducible rfl)
      refine tkH 10 rfl (v := ?v9) ?h9 ?r9
      case h9 => intro w hSw; (try dsimp only at hSw); go_simp; try (with_reducible rfl)
      refine tkH 11 rfl (v := ?v10) ?h10 ?r10
      case h10 => intro w hSw; (try dsimp only at hSw); go_simp; try (with_reducible rfl)
      refine tkH 12 rfl (v := ?v11) ?h11 ?r11
      case h11 => intro w hSw; (try dsimp only at hSw); go_simp; try (with_reducible rfl)
      refine tkH 13 rfl (v := ?v12) ?h12 ?r12
      case h12 => intro w hSw; (try dsimp only at hSw); go_simp; try (with_reducible rfl)
      try simp only [Act.put, lay1, lay2, lay3, lay4, lay5, lay6]
      refine wpAnyH_ready (rs := [8]) (by kernel_rfl) (by simp) (AllReadyH.cons rfl (fun K hK => ?_) AllReadyH.nil)
      go_simp
      refine (hOf _).mono ?_
      rintro e u13_1 ⟨v5, rfl, q5, b13_1⟩
      replace hKp := hKp.below b13_1 hKp.lt
      replace hS := hS.below b13_1 hS.lt
      replace x0 := cellAU b13_1 x0
      replace y0 := cellAU b13_1 y0
      replace z0 := cellAU b13_1 z0
      replace z1 := cellAU b13_1 z1
      replace z2 := cellAU b13_1 z2
      replace hq := hq.below b13_1
      replace hB := hB.trans (b13_1.mono hB.size)
      go_wp2_with fail
      refine hK.out _ _ ?_ (fun hHeld => ?_)
      · exact ⟨x0, y0, z0, z1, z2⟩
      clear hK K
      try simp only [Act.put, lay1, lay2, lay3, lay4, lay5, lay6]
      refine wpAnyH_ready (rs := [9]) (by kernel_rfl) (by simp) (AllReadyH.cons rfl (fun K hK => ?_) AllReadyH.nil)
      go_simp
      refine (hSt _ _ q5).mono ?_
      rintro e u13_2 ⟨v6, rfl, q6, b13_2⟩
      replace hKp := hKp.below b13_2 hKp.lt
      replace hS := hS.below b13_2 hS.lt
      replace x0 := cellAU b13_2 x0
      replace y0 := cellAU b13_2 y0
      replace z0 := cellAU b13_2 z0
      replace z1 := cellAU b13_2 z1
      replace z2 := cellAU b13_2 z2
      replace hq := hq.below b13_2
      replace q5 := q5.below b13_2
      replace hB := hB.trans (b13_2.mono hB.size)
      go_wp2_with fail
      refine hK.out _ _ ?_ (fun hHeld => ?_)
      · exact ⟨x0, y0, z0, z1, z2⟩
      clear hK K
      try simp only [Act.put, lay1, lay2, lay3, lay4, lay5, lay6]
      refine wpAnyH_ready (rs := [14]) (by kernel_rfl) (by simp) (AllReadyH.cons rfl (fun K hK => ?_) AllReadyH.nil)
      go_simp
      refine (hCm _ _ _ q6 hq).mono ?_
      rintro e u13_3 ⟨rfl, b13_3⟩
      replace hKp := hKp.below b13_3 hKp.lt
      replace hS := hS.below b13_3 hS.lt
      replace x0 := cellAU b13_3 x0
      replace y0 := cellAU b13_3 y0
      replace z0 := cellAU b13_3 z0
      replace z1 := cellAU b13_3 z1
      replace z2 := cellAU b13_3 z2
      replace hq := hq.below b13_3
      replace q5 := q5.below b13_3
      replace q6 := q6.below b13_3
      replace hB := hB.trans (b13_3.mono hB.size)
      go_wp2_with fail
      refine hK.out _ _ ?_ (fun hHeld => ?_)
      · exact ⟨x0, y0, z0, z1, z2⟩
      clear hK K
      refine tkH 15 rfl (v := ?v13) ?h13 ?r13
      case h13 => intro w hSw; (try dsimp only at hSw); go_simp; try (with_reducible rfl)
      refine tkH 16 rfl (v := ?v14) ?h14 ?r14
      case h14 => intro w hSw; (try dsimp only at hSw); go_simp; try (with_reducible rfl)
      refine tkH 17 rfl (v := ?v15) ?h15 ?r15
      case h15 => intro w hSw; (try dsimp only at hSw); go_simp; try (with_reducible rfl)
      refine tkH 18 rfl (v := ?v16) ?h16 ?r16
      case h16 => intro w hSw; (try dsimp only at hSw); go_simp; try (with_reducible rfl)
      refine tkH 19 rfl (v := ?v17) ?h17 ?r17
      case h17 => intro w hSw; (try dsimp only at hSw); go_simp; try (with_reducible rfl)
      refine tkH 20 rfl (v := ?v18) ?h18 ?r18
      case h18 => intro w hSw; (try dsimp only at hSw); go_simp; try (with_reducible rfl)
      refine tkH 21 rfl (v := ?v19) ?h19 ?r19
      case h19 => intro w hSw; (try dsimp only at hSw); go_simp; try (with_reducible rfl)
      refine tkH 22 rfl (v := ?v20) ?h20 ?r20
      case h20 => intro w hSw; (try dsimp only at hSw); go_simp; try (with_reducible rfl)
      refine tkH 23 rfl (v := ?v21) ?h21 ?r21
      case h21 => intro w hSw; (try dsimp only at hSw); go_simp; try (with_reducible rfl)
      try simp only [Act.put, lay1, lay2, lay3, lay4, lay5, lay6]
      try dsimp only
      try simp only [Act.put, lay1, lay2, lay3, lay4, lay5, lay6]
      refine wpAnyH_done (by kernel_rfl) ?_ _
      refine NoPanic.normal ?_
      skip
      obtain ⟨c48, c49, c50, c51⟩ := hKp.q4
      obtain ⟨c52, c53, c54, c55, c56, c57⟩ := hS.q6
      go_wp2
      exact ⟨⟨j + 1, by go_num, by omega, bl.trans (hB.mono bl.size)⟩, by simp [intOf]; omega⟩
    · obtain rfl : j = l.length := by omega
      go_wp2_with fail
      refine (hA _).mono ?_
      rintro e w9 ⟨rfl, b9⟩
      replace hB := hB.trans (b9.mono hB.size)
      go_wp2
      go_ret
      exact ⟨rfl, hB⟩
theorem TrackKept_all (k z m o : Int) (A : Option Addr) (C : Nat) (l : List Int) (w : World) (h : IsI w (.slice A l.length C) l) (hi : ∀ x ∈ l, I64 x) :
    Calls Tryz.prog 7 #[.agg #[.int .i64 k, .int .i64 z, .int .i64 m, .int .i64 o], .slice A l.length C] w fun e w' => e = .returned (.bool true) ∧ Below w.heap.size w w' := by
  by_cases hn : l.length ≤ 24
  · rcases ofE_cases (k := k) (z := z) (m := m) (o := o) (l := l) (by omega) with he | he
    · exact TrackKept_ok k z m o A C l w h hi hn he
    · exact TrackKept_err k z m o A C l w h hi hn he
  · exact TrackKept_many k z m o A C l w h hi hn
end Go.Proofs.YtdnjdglekifhpaaGreat
namespace Go.Proofs.YtdnjdglekifhpaaGreat
open Go.ChangeShapes Go.WideShapes Go.ChangeAt Go.RowKit
set_option maxRecDepth 100000 in
theorem TrackKept_walk : LawWalk 7 Tryz.f7 := by
  intro W base args H enc ds p hval hA hlt hz
  rw [show Tryz.f7.params.toList = [23, 62] from rfl] at hA hz
  obtain ⟨vk, vl, dk, dl, pk, pl, rfl, rfl, rfl, hk, hl⟩ := trodAll_two hA
  obtain ⟨k, z, m, o, rfl, _, _, _, _⟩ := open_keep (hval 0 23 vk rfl rfl) hk
  have hz' : ∀ n ∈ DataW.weightsEach Tryz.prog [23, 62] [dk, dl], n ≤ reachBytes := fun n hn => by
    have := List.all_eq_true.1 hz n hn
    simpa using this
  obtain ⟨l, iL, aL, _⟩ := open_i64w Tryz.underlying62 (hval 1 62 vl rfl rfl) hl (fun x hx => hlt x (by simp [hx])) (weights_at11 hz' (j := 1) rfl rfl)
  obtain ⟨A, C, rfl, _, _⟩ := id iL.form
  exact TrackKept_all k z m o A C l W iL aL
set_option maxRecDepth 100000 in
theorem TrackKept_holds : Rows.TrackKeptSaid :=
  OpenClaim.holds_of_wide 7 Tryz.f7 rfl rfl rfl rfl rfl rfl rfl ⟨rfl, rfl, rfl, rfl, rfl⟩ rfl rfl rfl rfl rfl (by kernel_rfl) Tryz.func7 (by kernel_rfl)
    (of_decide_eq_true (by kernel_rfl)) (by unfold Func.isWrapper; first | (rw [if_pos (by decide +kernel)]; kernel_rfl) | (rw [if_neg (by decide +kernel)]; exact ⟨rfl, rfl⟩))
    (fun os started H enc _ => law_lifted 7 Tryz.f7 Rows.trackKeptSpec Rows.trackKeptRow.domain rfl rfl rfl Tryz.func7 (by kernel_rfl) (by decide +kernel)
      (fun H ds h => by
        have h' : ds.length = 2 := h
        match ds, h' with
        | [_, _], _ => exact ⟨rfl, rfl, rfl⟩)
      (fun os _ H enc => ChangeSpec.witness6 (enc := enc) (C := Tryz.checked) false ⟨#[], #[.agg #[.int .i64 0, .int .i64 0, .int .i64 0, .int .i64 0], .slice none 0 0], []⟩ 8 (by kernel_rfl) (by kernel_rfl) (by kernel_rfl) (by kernel_rfl))
      TrackKept_walk os started H enc)
end Go.Proofs.YtdnjdglekifhpaaGreat
