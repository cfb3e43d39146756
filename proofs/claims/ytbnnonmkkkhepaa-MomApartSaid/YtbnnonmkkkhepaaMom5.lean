/- Package mom: the step of rows that are right. -/
import Derived.Test.YtbnnonmkkkhepaaMom4
import Derived.Test.YtbnnonmkkkhepaaIArr
import Derived.Deep.RegionHeld3
import Derived.Deep.DrawnRows
namespace Go.Proofs.Ytbnnonmkkkhepaa
open Go.RowKit
attribute [local go_sem ↓] Go.wp_at_zero Go.wp_at_succ

section
variable (lr mu wd : Int) (nest : Bool) (f : Nat) (W M G : List Int)
/-- what comes out at a place -/
def plV (i : Nat) : Int := stV mu f (iat M i) (stD wd f (iat W i) (iat G i))
def plW (i : Nat) : Int := stW lr f (iat W i) (stU nest mu f (stD wd f (iat W i) (iat G i)) (stV mu f (iat M i) (stD wd f (iat W i) (iat G i))))
def plE (i : Nat) : Int := stE lr mu wd nest f (iat W i) (iat M i) (iat G i)
def errTo : Nat → Int
  | 0 => 0
  | k + 1 => joinE (errTo k) (plE lr mu wd nest f W M G k)
end
/-- the first k of a row, noughts behind -/
def outTo (g : Nat → Int) (k n : Nat) : List Int := (List.range n).map fun i => if i < k then g i else 0
theorem outTo_len (g : Nat → Int) (k n : Nat) : (outTo g k n).length = n := by simp [outTo]
theorem outTo_zero (g : Nat → Int) (n : Nat) : outTo g 0 n = List.replicate n 0 := by
  unfold outTo; rw [List.eq_replicate_iff]; simp
theorem outTo_set (g : Nat → Int) (k n : Nat) : (outTo g k n).set k (g k) = outTo g (k + 1) n := by
  apply List.ext_getElem (by simp [outTo])
  intro i h1 h2
  simp only [outTo, List.length_map, List.length_range, List.length_set] at h1 h2
  rw [List.getElem_set]
  simp only [outTo, List.getElem_map, List.getElem_range]
  by_cases h : k = i
  · subst h; simp
  · rw [if_neg h]
    by_cases h3 : i < k
    · rw [if_pos h3, if_pos (by omega)]
    · rw [if_neg h3, if_neg (by omega)]
theorem outTo_all (g : Nat → Int) (n : Nat) : outTo g n n = (List.range n).map g := by
  unfold outTo; apply List.map_congr_left; intro i hi; rw [if_pos (by simpa using hi)]
theorem is_set (l : List Int) (k : Nat) (x : Int) : (is l).toArray.setIfInBounds k (.int .i64 x) = (is (l.set k x)).toArray := by
  simp [is, List.map_set]

/-- what a round of the step reads -/
def StepT (w : World) (BO BW BM R B n cW cM cG : Nat) (lr mu wd : Int) (nest : Bool) (adW adM adG : Addr) (vV : Value) (k : Nat) (a b c : Int) : Prop :=
  Wk w (R + 1) R lr mu wd nest ∧ Blk w BO 26 #[.slice (some ⟨BW, 0, none⟩) n n, .slice (some ⟨BM, 0, none⟩) n n, .slice none 0 0, .slice none 0 0] ∧
  Blk w (B + 1) 26 #[.slice (some adW) n cW, .slice (some adM) n cM, vV, .slice (some adG) n cG] ∧
  w.cell? (adW.add k) = some (.int .i64 a) ∧ w.cell? (adM.add k) = some (.int .i64 b) ∧ w.cell? (adG.add k) = some (.int .i64 c)
section
variable {w w' : World} {BO BW BM R B n cW cM cG : Nat} {lr mu wd : Int} {nest : Bool} {adW adM adG : Addr} {vV : Value} {k : Nat} {a b c : Int}
theorem StepT.cells (h : StepT w BO BW BM R B n cW cM cG lr mu wd nest adW adM adG vV k a b c) :
    w.cell? ⟨BO, 0, none⟩ = some (.slice (some ⟨BW, 0, none⟩) n n) ∧ w.cell? ⟨BO, 1, none⟩ = some (.slice (some ⟨BM, 0, none⟩) n n) ∧
    w.cell? ⟨R + 1, 0, none⟩ = some (.pointer (some ⟨R, 0, none⟩)) ∧ w.cell? ⟨R + 1, 1, none⟩ = some (.int .i64 lr) ∧ w.cell? ⟨R + 1, 2, none⟩ = some (.int .i64 mu) ∧ w.cell? ⟨R + 1, 3, none⟩ = some (.int .i64 wd) ∧ w.cell? ⟨R + 1, 4, none⟩ = some (.bool nest) ∧
    w.cell? ⟨B + 1, 0, none⟩ = some (.slice (some adW) n cW) ∧ w.cell? ⟨B + 1, 1, none⟩ = some (.slice (some adM) n cM) ∧ w.cell? ⟨B + 1, 3, none⟩ = some (.slice (some adG) n cG) ∧
    w.cell? (adW.add k) = some (.int .i64 a) ∧ w.cell? (adM.add k) = some (.int .i64 b) ∧ w.cell? (adG.add k) = some (.int .i64 c) := by
  obtain ⟨h1, h2, h3, h4, h5, h6⟩ := h
  obtain ⟨c0, c1, c2, c3⟩ := h1.cells
  exact ⟨h2.cell 0, h2.cell 1, c0, c1, c2, c3, h1.nest_, h3.cell 0, h3.cell 1, h3.cell 3, h4, h5, h6⟩
theorem StepT.far (h : StepT w BO BW BM R B n cW cM cG lr mu wd nest adW adM adG vV k a b c)
    (hk : ∀ i, i ≠ R → i ≠ BW → i ≠ BM → i < w.heap.size → w'.heap[i]? = w.heap[i]?) (hR : R + 2 ≤ BW) (hR2 : R + 2 ≤ BM) (n1 : BO ≠ BW) (n2 : BO ≠ BM) (n0 : R + 2 ≤ BO) (hBR : B + 1 < R)
    (x1 : adW.block < B) (x2 : adM.block < B) (x3 : adG.block < B) (hw : B ≤ w.heap.size) : StepT w' BO BW BM R B n cW cM cG lr mu wd nest adW adM adG vV k a b c := by
  obtain ⟨h1, h2, h3, h4, h5, h6⟩ := h
  refine ⟨(hk _ (by omega) (by omega) (by omega) h1.lt).trans h1, (hk _ (by omega) n1 n2 h2.lt).trans h2, (hk _ (by omega) (by omega) (by omega) h3.lt).trans h3, ?_, ?_, ?_⟩
  · rw [← h4]; exact World.cell?_of_block (by rw [block_of_add]; exact hk _ (by omega) (by omega) (by omega) (by omega))
  · rw [← h5]; exact World.cell?_of_block (by rw [block_of_add]; exact hk _ (by omega) (by omega) (by omega) (by omega))
  · rw [← h6]; exact World.cell?_of_block (by rw [block_of_add]; exact hk _ (by omega) (by omega) (by omega) (by omega))
theorem StepT.set_ (h : StepT w BO BW BM R B n cW cM cG lr mu wd nest adW adM adG vV k a b c) {g : Nat} (h1 : R + 2 ≤ g) (h2 : BO ≠ g) (hBR : B + 1 < R)
    (x1 : adW.block < B) (x2 : adM.block < B) (x3 : adG.block < B) (x : Value) : StepT (w.setCell ⟨g, k, none⟩ x) BO BW BM R B n cW cM cG lr mu wd nest adW adM adG vV k a b c := by
  obtain ⟨k1, k2, k3, k4, k5, k6⟩ := h
  have hb : ∀ i, i ≠ g → (w.setCell ⟨g, k, none⟩ x).heap[i]? = w.heap[i]? := fun i hi => Below.heap_setCell w ⟨g, k, none⟩ x i hi
  refine ⟨(hb _ (by omega)).trans k1, (hb _ h2).trans k2, (hb _ (by omega)).trans k3, ?_, ?_, ?_⟩
  · rw [← k4]; exact World.cell?_of_block (by rw [block_of_add]; exact hb _ (by omega))
  · rw [← k5]; exact World.cell?_of_block (by rw [block_of_add]; exact hb _ (by omega))
  · rw [← k6]; exact World.cell?_of_block (by rw [block_of_add]; exact hb _ (by omega))
end
theorem IArr.isI_len {w : World} {g : Nat} {l : List Int} (h : IArr w g l) {n : Nat} (hn : l.length = n) (hl : n ≤ 9223372036854775807) : IsI w (.slice (some ⟨g, 0, none⟩) n n) l := by
  subst hn; exact h.isI hl
theorem three0 {w : World} {S : Nat} (h : w.heap.size = S) (x y z : Obj) : ((((w.alloc x).alloc y).alloc z).drew).heap[S]? = some x := by
  subst h
  exact (Below.heap_alloc _ z _ (by simp; omega)).trans ((Below.heap_alloc _ y _ (by simp)).trans (heap_alloc_new w x))
theorem three1 {w : World} {S : Nat} (h : w.heap.size = S) (x y z : Obj) : ((((w.alloc x).alloc y).alloc z).drew).heap[S + 1]? = some y := by
  subst h
  have := heap_alloc_new (w.alloc x) y
  rw [World.size_alloc] at this
  exact (Below.heap_alloc _ z _ (by simp)).trans this
theorem three2 {w : World} {S : Nat} (h : w.heap.size = S) (x y z : Obj) : ((((w.alloc x).alloc y).alloc z).drew).heap[S + 1 + 1]? = some z := by
  subst h
  have := heap_alloc_new ((w.alloc x).alloc y) z
  rw [World.size_alloc, World.size_alloc] at this
  exact this
theorem three_below {w : World} {S : Nat} (h : w.heap.size = S) (x y z : Obj) : Below S w (((w.alloc x).alloc y).alloc z).drew := by
  subst h
  exact ((((Below.refl _ w).alloc (Nat.le_refl _) _).alloc (by simp) _).alloc (by simp; omega) _).drew
set_option maxRecDepth 100000 in
set_option maxHeartbeats 4000000 in
theorem Step_runs (lr mu wd : Int) (f : Nat) (nest : Bool) (vW vM vV vG : Value) (W M G : List Int) (w : World) (hW : IsI w vW W) (hM : IsI w vM M) (hG : IsI w vG G) (hr : rightM lr mu wd f = true) (hs : M.length = W.length ∧ G.length = W.length) (hn : W.length ≤ 1000000)
    (hf : f ≤ 40) (hlr : In64 lr) (hmu : In64 mu) (hwd : In64 wd) (iW : ∀ i, In64 (iat W i)) (iM : ∀ i, In64 (iat M i)) (iG : ∀ i, In64 (iat G i)) :
    Calls Try.prog 10 #[.agg #[.int .i64 lr, .int .i64 mu, .int .i64 wd, .bool nest], .int .i64 f, .agg #[vW, vM, vV, vG]] w fun x w' =>
      (errTo lr mu wd nest f W M G W.length ≠ 0 → x = .returned (.tuple #[.agg #[.slice none 0 0, .slice none 0 0, .slice none 0 0, .slice none 0 0], .int .i64 2])) ∧
      (errTo lr mu wd nest f W M G W.length = 0 → ∃ a b, x = .returned (.tuple #[.agg #[a, b, .slice none 0 0, .slice none 0 0], .int .i64 0]) ∧ IsI w' a ((List.range W.length).map (plW lr mu wd nest f W M G)) ∧ IsI w' b ((List.range W.length).map (plV mu wd f W M G))) ∧ Below w.heap.size w w' := by
  have hR := fun w => right_any lr mu wd f nest w
  rw [hr] at hR
  obtain ⟨AW, cW, rfl, hc1, hc2, hRW⟩ := hW
  obtain ⟨AM, cM, rfl, hm1, hm2, hRM⟩ := hM
  obtain ⟨AG, cG, rfl, hg1, hg2, hRG⟩ := hG
  obtain ⟨hsM, hsG⟩ := hs
  obtain ⟨n, hnn⟩ : ∃ n, n = W.length := ⟨_, rfl⟩
  rw [hsM] at hRM hm1 ⊢
  rw [hsG] at hRG hg1 ⊢
  rw [← hnn] at hRW hRM hRG hn hc1 hm1 hg1 ⊢
  obtain ⟨B, hB⟩ : ∃ B, B = w.heap.size := ⟨_, rfl⟩
  have HN := Lib.hid (And.intro hnn (And.intro hsM hsG))
  clear hnn hsM hsG
  go_enter Try.func10, Try.ntmps10
  go_wp2_with fail
  obtain ⟨W0, hW0⟩ : ∃ W0, W0 = ((w.alloc (.cells #[.int .i64 lr, .int .i64 mu, .int .i64 wd, .bool nest] 23)).alloc (.cells #[.slice AW n cW, .slice AM n cM, vV, .slice AG n cG] 26)).alloc (.cells #[.slice none 0 0, .slice none 0 0, .slice none 0 0, .slice none 0 0] 26) := ⟨_, rfl⟩
  have h6 : Blk W0 (B + 2) 26 #[.slice none 0 0, .slice none 0 0, .slice none 0 0, .slice none 0 0] := by
    rw [hW0, hB]; have := Blk.new ((w.alloc (.cells #[.int .i64 lr, .int .i64 mu, .int .i64 wd, .bool nest] 23)).alloc (.cells #[.slice AW n cW, .slice AM n cM, vV, .slice AG n cG] 26)) 26 #[.slice none 0 0, .slice none 0 0, .slice none 0 0, .slice none 0 0]
    simpa using this
  have h5 : Blk W0 (B + 1) 26 #[.slice AW n cW, .slice AM n cM, vV, .slice AG n cG] := by
    rw [hW0, hB]; have := Blk.new (w.alloc (.cells #[.int .i64 lr, .int .i64 mu, .int .i64 wd, .bool nest] 23)) 26 #[.slice AW n cW, .slice AM n cM, vV, .slice AG n cG]
    rw [World.size_alloc] at this
    exact this.alloc _
  have h4 : Blk W0 B 23 #[.int .i64 lr, .int .i64 mu, .int .i64 wd, .bool nest] := by
    rw [hW0, hB]; exact ((Blk.new w 23 #[.int .i64 lr, .int .i64 mu, .int .i64 wd, .bool nest]).alloc _).alloc _
  have hb0 : Below w.heap.size w W0 := by rw [hW0]; exact (((Below.refl _ w).alloc (Nat.le_refl _) _).alloc (by simp) _).alloc (by simp; omega) _
  rw [← hW0, ← hB]
  refine (hR _).mono ?_
  rintro x w1 ⟨rfl, b1⟩
  have h6 := h6.below b1 h6.lt
  have h5 := h5.below b1 h5.lt
  have h4 := h4.below b1 h4.lt
  have b1 := hb0.trans (b1.mono hb0.size)
  have hB2 : w.heap.size ≤ B + 2 := by omega
  clear hW0 hb0
  have l0 := h5.cell 0
  have l1 := h5.cell 1
  have l3 := h5.cell 3
  have m0 := h4.cell 0
  have m1 := h4.cell 1
  have m2 := h4.cell 2
  have m3 := h4.cell 3
  have HB := Lib.hid hB
  clear hB
  have z4 : B < w1.heap.size := h4.lt
  have z5 : B + 1 < w1.heap.size := h5.lt
  have z6 : B + 2 < w1.heap.size := h6.lt
  have y0 := World.new_ne w1 _ m0
  have y1 := World.new_ne w1 _ m1
  have y2 := World.new_ne w1 _ m2
  have y3 := World.new_ne w1 _ m3
  have hmk := run_make_i64 24 Try.underlying24 n n rfl (by omega)
  go_upto_region 7 with fail
  obtain ⟨R, hR0⟩ : ∃ R, R = w1.heap.size := ⟨_, rfl⟩
  obtain ⟨W2, hW2⟩ : ∃ W2, W2 = (w1.alloc (.cells #[.int .i64 f, .int .i64 0] 53)).alloc (.cells #[.pointer (some ⟨w1.heap.size, 0, none⟩), .int .i64 lr, .int .i64 mu, .int .i64 wd, .bool nest] 55) := ⟨_, rfl⟩
  have hrk : Rk W2 R f 0 := by rw [hW2, hR0]; exact (Blk.new w1 _ _).alloc _
  have hwk : Wk W2 (R + 1) R lr mu wd nest := by
    rw [hW2, hR0]
    have := Blk.new (w1.alloc (.cells #[.int .i64 f, .int .i64 0] 53)) 55 #[.pointer (some ⟨w1.heap.size, 0, none⟩), .int .i64 lr, .int .i64 mu, .int .i64 wd, .bool nest]
    rw [World.size_alloc] at this; exact this
  have h6 : Blk W2 (B + 2) 26 #[.slice none 0 0, .slice none 0 0, .slice none 0 0, .slice none 0 0] := by rw [hW2]; exact (h6.alloc _).alloc _
  have h5 : Blk W2 (B + 1) 26 #[.slice AW n cW, .slice AM n cM, vV, .slice AG n cG] := by rw [hW2]; exact (h5.alloc _).alloc _
  have b2 : Below w.heap.size w W2 := by rw [hW2]; exact (b1.alloc b1.size _).alloc (by have := b1.size; simp; omega) _
  have hsz2 : W2.heap.size = R + 2 := by rw [hW2, hR0]; simp
  have hRB : B + 2 < R := by rw [hR0]; exact z6
  rw [← hW2]
  rw [← hR0]
  have HS := Lib.hid hsz2
  clear hW2 hR0 hsz2 l0 l1 l3 m0 m1 m2 m3 z4 z5 z6 y0 y1 y2 y3 b1
  go_cut [10] (fun s wx => ∃ BO BW BM, s = .pointer (some ⟨BO, 0, none⟩) ∧ R + 2 ≤ BO ∧ R + 2 ≤ BW ∧ R + 2 ≤ BM ∧ BO ≠ BW ∧ BO ≠ BM ∧ BW ≠ BM ∧ Blk wx BO 26 #[.slice (some ⟨BW, 0, none⟩) n n, .slice (some ⟨BM, 0, none⟩) n n, .slice none 0 0, .slice none 0 0] ∧ IArr wx BW (List.replicate n 0) ∧ IArr wx BM (List.replicate n 0) ∧ Below W2.heap.size W2 wx)
  case first =>
    go_region
    all_goals (go_wp2_with fail; go_meet)
    all_goals
      have hsz2 := HS.out
      have hB3 : Below W2.heap.size W2 W2 := Below.refl _ _
      generalize hSS : W2.heap.size = S at *
      have t0 := fun x y z => three0 hSS x y z
      have t1 := fun x y z => three1 hSS x y z
      have t2 := fun x y z => three2 hSS x y z
      have tb := fun x y z => three_below hSS x y z
      first
        | exact ⟨_, S, S + 1, rfl, by omega, by omega, by omega, by omega, by omega, by omega, by first | exact t0 _ _ _ | exact t1 _ _ _ | exact t2 _ _ _, by first | exact t0 _ _ _ | exact t1 _ _ _ | exact t2 _ _ _, by first | exact t0 _ _ _ | exact t1 _ _ _ | exact t2 _ _ _, tb _ _ _⟩
        | exact ⟨_, S + 1, S, rfl, by omega, by omega, by omega, by omega, by omega, by omega, by first | exact t0 _ _ _ | exact t1 _ _ _ | exact t2 _ _ _, by first | exact t0 _ _ _ | exact t1 _ _ _ | exact t2 _ _ _, by first | exact t0 _ _ _ | exact t1 _ _ _ | exact t2 _ _ _, tb _ _ _⟩
        | exact ⟨_, S, S + 1 + 1, rfl, by omega, by omega, by omega, by omega, by omega, by omega, by first | exact t0 _ _ _ | exact t1 _ _ _ | exact t2 _ _ _, by first | exact t0 _ _ _ | exact t1 _ _ _ | exact t2 _ _ _, by first | exact t0 _ _ _ | exact t1 _ _ _ | exact t2 _ _ _, tb _ _ _⟩
        | exact ⟨_, S + 1 + 1, S, rfl, by omega, by omega, by omega, by omega, by omega, by omega, by first | exact t0 _ _ _ | exact t1 _ _ _ | exact t2 _ _ _, by first | exact t0 _ _ _ | exact t1 _ _ _ | exact t2 _ _ _, by first | exact t0 _ _ _ | exact t1 _ _ _ | exact t2 _ _ _, tb _ _ _⟩
        | exact ⟨_, S + 1, S + 1 + 1, rfl, by omega, by omega, by omega, by omega, by omega, by omega, by first | exact t0 _ _ _ | exact t1 _ _ _ | exact t2 _ _ _, by first | exact t0 _ _ _ | exact t1 _ _ _ | exact t2 _ _ _, by first | exact t0 _ _ _ | exact t1 _ _ _ | exact t2 _ _ _, tb _ _ _⟩
        | exact ⟨_, S + 1 + 1, S + 1, rfl, by omega, by omega, by omega, by omega, by omega, by omega, by first | exact t0 _ _ _ | exact t1 _ _ _ | exact t2 _ _ _, by first | exact t0 _ _ _ | exact t1 _ _ _ | exact t2 _ _ _, by first | exact t0 _ _ _ | exact t1 _ _ _ | exact t2 _ _ _, tb _ _ _⟩
  obtain ⟨BO, BW, BM, rfl, hO, hBW, hBM, ne1, ne2, ne3, hbO, haW, haM, b3⟩ := hcut
  go_wp2
  have hbz1 : B ≤ w.heap.size := by have := HB.out; omega
  have hbz2 : w.heap.size ≤ B := by have := HB.out; omega
  have hrk := hrk.below (w' := wc) (b3.mono (Nat.le_refl _))
  have hwk : Wk wc (R + 1) R lr mu wd nest := (b3.block _ hwk.lt).trans hwk
  have h6 := h6.below b3 h6.lt
  have h5 := h5.below b3 h5.lt
  have b3 := b2.trans (b3.mono b2.size)
  clear b2 HS
  go_loopw [46] (fun i wr => ∃ (k : Nat) (e : Int), k ≤ n ∧ i = .int .i64 k ∧ Hid (e = errTo lr mu wd nest f W M G k) ∧ Rk wr R f e ∧ Wk wr (R + 1) R lr mu wd nest ∧ Blk wr BO 26 #[.slice (some ⟨BW, 0, none⟩) n n, .slice (some ⟨BM, 0, none⟩) n n, .slice none 0 0, .slice none 0 0] ∧
    IArr wr BW (outTo (plW lr mu wd nest f W M G) k n) ∧ IArr wr BM (outTo (plV mu wd f W M G) k n) ∧ Blk wr (B + 1) 26 #[.slice AW n cW, .slice AM n cM, vV, .slice AG n cG] ∧ Blk wr (B + 2) 26 #[.slice none 0 0, .slice none 0 0, .slice none 0 0, .slice none 0 0] ∧ Below w.heap.size w wr) (fun i _ => n - (intOf i).toNat)
  case atStart => exact ⟨0, 0, by omega, rfl, Lib.hid rfl, hrk, hwk, hbO, by rw [outTo_zero]; exact haW, by rw [outTo_zero]; exact haM, h5, h6, b3⟩
  case round =>
    clear hrk hwk hbO haW haM h5 h6 b3
    obtain ⟨k, e, hk, rfl, he, hrk, hwk, hbO, haW, haM, h5, h6, b3⟩ := hrel
    by_cases hlt : k < n
    · obtain ⟨adW, rfl, xW, cWk⟩ := is_cell hRW hlt
      obtain ⟨adM, rfl, xM, cMk⟩ := is_cell hRM hlt
      obtain ⟨adG, rfl, xG, cGk⟩ := is_cell hRG hlt
      have hT : StepT wr BO BW BM R B n cW cM cG lr mu wd nest adW adM adG vV k (iat W k) (iat M k) (iat G k) :=
        ⟨hwk, hbO, h5, (b3.cell (by rw [block_of_add]; exact xW)).trans cWk, (b3.cell (by rw [block_of_add]; exact xM)).trans cMk, (b3.cell (by rw [block_of_add]; exact xG)).trans cGk⟩
      have hstep := fun w h => step_any R f e lr mu wd nest (iat W k) (iat M k) (iat G k) w hf h hlr hmu hwd (iW k) (iM k) (iG k)
      have hset1 := outTo_set (plW lr mu wd nest f W M G) k n
      have hset2 := outTo_set (plV mu wd f W M G) k n
      have hE : Hid (errTo lr mu wd nest f W M G (k + 1) = joinE e (stE lr mu wd nest f (iat W k) (iat M k) (iat G k))) := by rw [Hid, he.out]; rfl
      rw [show plW lr mu wd nest f W M G k = stW lr f (iat W k) (stU nest mu f (stD wd f (iat W k) (iat G k)) (stV mu f (iat M k) (stD wd f (iat W k) (iat G k)))) from rfl] at hset1
      rw [show plV mu wd f W M G k = stV mu f (iat M k) (stD wd f (iat W k) (iat G k)) from rfl] at hset2
      generalize stW lr f (iat W k) (stU nest mu f (stD wd f (iat W k) (iat G k)) (stV mu f (iat M k) (stD wd f (iat W k) (iat G k)))) = X at hstep hset1
      generalize stV mu f (iat M k) (stD wd f (iat W k) (iat G k)) = Y at hstep hset2
      generalize stE lr mu wd nest f (iat W k) (iat M k) (iat G k) = E' at hstep hE
      have hlW : (outTo (plW lr mu wd nest f W M G) k n).length = n := outTo_len _ _ _
      have hlM : (outTo (plV mu wd f W M G) k n).length = n := outTo_len _ _ _
      have Hset := Lib.hid (And.intro hset1 hset2)
      have HlW := Lib.hid hlW
      have HlM := Lib.hid hlM
      clear hset1 hset2 hlW hlM
      have i0 : (0 : Int) ≤ (k : Int) := by omega
      have i1 : (k : Int) < (n : Int) := by omega
      have hcw := haW.cell (i := k) (by rw [HlW.out]; exact hlt)
      have hcm := haM.cell (i := k) (by rw [HlM.out]; exact hlt)
      have hzw := haW.frozen k
      have hzm := haM.frozen k
      have hkeep1 : ∀ w', wr.drew.grownBy w' (some R) → StepT w' BO BW BM R B n cW cM cG lr mu wd nest adW adM adG vV k (iat W k) (iat M k) (iat G k) := fun w' hg => hT.far (fun i h1 _ _ h4 => hg.block i h4 (fun e => h1 (by injection e))) hBW hBM ne1 ne2 hO (by omega) (by omega) (by omega) (by omega) (by have := b3.size; omega)
      have hkW : ∀ w', wr.drew.grownBy w' (some R) → IArr w' BW (outTo (plW lr mu wd nest f W M G) k n) := fun w' hg => (hg.block BW haW.lt (fun e => by injection e; omega)).trans haW
      have hkM : ∀ w', wr.drew.grownBy w' (some R) → IArr w' BM (outTo (plV mu wd f W M G) k n) := fun w' hg => (hg.block BM haM.lt (fun e => by injection e; omega)).trans haM
      have hcW : ∀ w', IArr w' BW (outTo (plW lr mu wd nest f W M G) k n) → w'.cell? ⟨BW, k, none⟩ = some (.int .i64 (iat (outTo (plW lr mu wd nest f W M G) k n) k)) ∧ w'.frozen? ⟨BW, k, none⟩ = false := fun w' h => ⟨h.cell (by rw [HlW.out]; exact hlt), h.frozen k⟩
      have hcM : ∀ w', IArr w' BM (outTo (plV mu wd f W M G) k n) → w'.cell? ⟨BM, k, none⟩ = some (.int .i64 (iat (outTo (plV mu wd f W M G) k n) k)) ∧ w'.frozen? ⟨BM, k, none⟩ = false := fun w' h => ⟨h.cell (by rw [HlM.out]; exact hlt), h.frozen k⟩
      have hkS : ∀ w' g x, StepT w' BO BW BM R B n cW cM cG lr mu wd nest adW adM adG vV k (iat W k) (iat M k) (iat G k) → (g = BW ∨ g = BM) → StepT (w'.setCell ⟨g, k, none⟩ x) BO BW BM R B n cW cM cG lr mu wd nest adW adM adG vV k (iat W k) (iat M k) (iat G k) := fun w' g x h hg => h.set_ (by omega) (by omega) (by omega) (by omega) (by omega) (by omega) x
      generalize iat W k = a at *
      generalize iat M k = b at *
      generalize iat G k = c at *
      go_wp2
      go_region_held3 (fun w' => w'.cell? ⟨BO, 0, none⟩ = some (.slice (some ⟨BW, 0, none⟩) n n) ∧ w'.cell? ⟨BO, 1, none⟩ = some (.slice (some ⟨BM, 0, none⟩) n n) ∧
          w'.cell? ⟨R + 1, 0, none⟩ = some (.pointer (some ⟨R, 0, none⟩)) ∧ w'.cell? ⟨R + 1, 1, none⟩ = some (.int .i64 lr) ∧ w'.cell? ⟨R + 1, 2, none⟩ = some (.int .i64 mu) ∧ w'.cell? ⟨R + 1, 3, none⟩ = some (.int .i64 wd) ∧ w'.cell? ⟨R + 1, 4, none⟩ = some (.bool nest) ∧
          w'.cell? ⟨B + 1, 0, none⟩ = some (.slice (some adW) n cW) ∧ w'.cell? ⟨B + 1, 1, none⟩ = some (.slice (some adM) n cM) ∧ w'.cell? ⟨B + 1, 3, none⟩ = some (.slice (some adG) n cG) ∧
          w'.cell? (adW.add k) = some (.int .i64 a) ∧ w'.cell? (adM.add k) = some (.int .i64 b) ∧ w'.cell? (adG.add k) = some (.int .i64 c))
        (first | exact hT.cells | exact StepT.cells (by assumption) | exact StepT.cells (hkS _ _ _ (by assumption) (.inl rfl)) | exact StepT.cells (hkS _ _ _ (by assumption) (.inr rfl)) | exact StepT.cells (hkS _ _ _ (hkS _ _ _ (by assumption) (.inl rfl)) (.inr rfl)) | exact StepT.cells (hkS _ _ _ (hkS _ _ _ (by assumption) (.inr rfl)) (.inl rfl)))
        ((go_at_call 24; refine (hstep _ ?_).mono ?_; exact hrk; rintro x w9 ⟨rfl, hrk9, g9⟩; have hT9 := hkeep1 w9 g9; have haW9 := hkW w9 g9; have haM9 := hkM w9 g9; obtain ⟨cw9, fw9⟩ := hcW w9 haW9; obtain ⟨cm9, fm9⟩ := hcM w9 haM9; clear hkeep1 hkW hkM hcW hcM))
      go_wp2
      have hTf := hkS _ BM (.int .i64 Y) (hkS _ BW (.int .i64 X) hT9 (.inl rfl)) (.inr rfl)
      have hRf := (Below.heap_setCell (w9.setCell ⟨BW, k, none⟩ (.int .i64 X)) ⟨BM, k, none⟩ (.int .i64 Y) R (show R ≠ BM by omega)).trans ((Below.heap_setCell w9 ⟨BW, k, none⟩ (.int .i64 X) R (show R ≠ BW by omega)).trans hrk9)
      have hWf := (haW9.set k X).far (p := ⟨BM, k, none⟩) ne3 (.int .i64 Y)
      have hMf := (haM9.far (p := ⟨BW, k, none⟩) (Ne.symm ne3) (.int .i64 X)).set k Y
      rw [Hset.out.1] at hWf
      rw [Hset.out.2] at hMf
      have h6f : Blk ((w9.setCell ⟨BW, k, none⟩ (.int .i64 X)).setCell ⟨BM, k, none⟩ (.int .i64 Y)) (B + 2) 26 #[.slice none 0 0, .slice none 0 0, .slice none 0 0, .slice none 0 0] :=
        Blk.far (p := ⟨BM, k, none⟩) (Blk.far (p := ⟨BW, k, none⟩) (h6.drew.grown g9 (fun e => by injection e; omega)) (show B + 2 ≠ BW by omega) _) (show B + 2 ≠ BM by omega) _
      have b9 := ((b3.drew.grown g9 b3.size (fun j e => by injection e; omega)).setCell (p := ⟨BW, k, none⟩) (show w.heap.size ≤ BW by omega) (.int .i64 X)).setCell (p := ⟨BM, k, none⟩) (show w.heap.size ≤ BM by omega) (.int .i64 Y)
      exact ⟨⟨k + 1, joinE e E', by omega, by go_num, Lib.hid hE.out.symm, hRf, hTf.1, hTf.2.1, hWf, hMf, hTf.2.2.1, h6f, b9⟩, by simp [intOf]; omega⟩
    · obtain rfl : k = n := by omega
      have c0 := hwk.cells.1
      have c1 := hrk.cell1
      have q0 := h6.cell 0
      have q1 := h6.cell 1
      have q2 := h6.cell 2
      have q3 := h6.cell 3
      have z0 := h6.frozen 0
      have z1 := h6.frozen 1
      have z2 := h6.frozen 2
      have z3 := h6.frozen 3
      have o0 := hbO.cell 0
      have o1 := hbO.cell 1
      have o2 := hbO.cell 2
      have o3 := hbO.cell 3
      rw [outTo_all] at haW haM
      have aE := fun a b c d => Lib.hid ((((b3.setCell (p := ⟨B + 2, 0, none⟩) hB2 a).setCell (p := ⟨B + 2, 1, none⟩) hB2 b).setCell (p := ⟨B + 2, 2, none⟩) hB2 c).setCell (p := ⟨B + 2, 3, none⟩) hB2 d)
      have aW := fun a b c d => Lib.hid ((((haW.far (p := ⟨B + 2, 0, none⟩) (show _ ≠ B + 2 by omega) a).far (p := ⟨B + 2, 1, none⟩) (show _ ≠ B + 2 by omega) b).far (p := ⟨B + 2, 2, none⟩) (show _ ≠ B + 2 by omega) c).far (p := ⟨B + 2, 3, none⟩) (show _ ≠ B + 2 by omega) d)
      have aM := fun a b c d => Lib.hid ((((haM.far (p := ⟨B + 2, 0, none⟩) (show _ ≠ B + 2 by omega) a).far (p := ⟨B + 2, 1, none⟩) (show _ ≠ B + 2 by omega) b).far (p := ⟨B + 2, 2, none⟩) (show _ ≠ B + 2 by omega) c).far (p := ⟨B + 2, 3, none⟩) (show _ ≠ B + 2 by omega) d)
      by_cases h0 : e = 0
      · subst h0
        have hE := Lib.hid he.out.symm
        go_wp2
        refine bodyPost_ret (v := .tuple #[.agg #[.slice (some ⟨BW, 0, none⟩) k k, .slice (some ⟨BM, 0, none⟩) k k, .slice none 0 0, .slice none 0 0], .int .i64 0]) (by simp [results, Try.results10, go_sem, q0, q1, q2, q3]) rfl ⟨fun h => absurd hE.out h, fun _ => ⟨_, _, rfl, ?_, ?_⟩, (aE _ _ _ _).out⟩
        · exact (aW _ _ _ _).out.isI_len (by simp) (by omega)
        · exact (aM _ _ _ _).out.isI_len (by simp) (by omega)
      · have hne : (e == 0) = false := by simpa using h0
        have hne2 : (e != 0) = true := by simpa using h0
        have hE : Hid (errTo lr mu wd nest f W M G k ≠ 0) := Lib.hid (by rw [← he.out]; exact h0)
        clear h0
        go_wp2
        refine bodyPost_ret (v := .tuple #[.agg #[.slice none 0 0, .slice none 0 0, .slice none 0 0, .slice none 0 0], .int .i64 2]) (by simp [results, Try.results10, go_sem, q0, q1, q2, q3]) rfl ⟨fun _ => rfl, fun h => absurd h hE.out, (aE _ _ _ _).out⟩
end Go.Proofs.Ytbnnonmkkkhepaa
