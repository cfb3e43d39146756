/- zed.Read: the integer that a text is. -/
import Derived.Test.YtooonjcpdbbniaaGreatDoorChunkY
import Derived.Test.YtooonjcpdbbniaaGreatDoorTextD
import Derived.Test.YtooonjcpdbbniaaGreatDoorTextP
import Derived.Test.YtooonjcpdbbniaaGreatDoorPZed
import Derived.Test.YtooonjcpdbbniaaGreatDoorShelf04
import Derived.Test.YtooonjcpdbbniaaGreatDoorShelf04b
import Derived.Test.YtooonjcpdbbniaaGreatDoorRoundReg
import Derived.Test.YtooonjcpdbbniaaGreatDoorPrintZ
import Derived.Lib.OthersKept
import Derived.Lib.ConvBytes
import Derived.Lib.SmallJoins
import Derived.Laws.BytesArg
import Derived.Deep.RegionHeld3
namespace Go.Proofs.YtooonjcpdbbniaaGreatDoor
open Go.RowKit Go.Lib Go.Shelf
attribute [local go_sem] Oper.semAt_some
/-- a row of bytes that a string became lies where it lay -/
def Lies (w : World) (k : Nat) (o : Obj) : Prop := w.heap[k]? = some o ∧ o.isCells = true
theorem Lies.own {W W' : World} {row : Option Nat} {k : Nat} {o : Obj} (h : Lies W k o) (hg : W.grownBy W' row) (hr : ∀ r, row = some r → ∃ o : Obj, W.heap[r]? = some o ∧ o.isCells = false) : Lies W' k o :=
  ⟨(hg.block k (Array.getElem?_eq_some_iff.1 h.1).1 (fun e => by
    obtain ⟨o', ho, hc⟩ := hr k e.symm
    rw [h.1] at ho; cases ho; rw [h.2] at hc; cases hc)).trans h.1, h.2⟩
theorem cut_str (l D : List UInt8) (frm : Nat) (h : l.drop frm = D) (hf : frm ≤ l.length) : (⟨l.toArray⟩ : ByteArray).extract frm l.length = ⟨D.toArray⟩ := by
  apply ByteArray.ext
  subst h
  simp [ByteArray.data_extract, List.extract_eq_take_drop]
  rw [List.take_of_length_le (by simp)]
theorem get_cut (l D : List UInt8) (frm : Nat) (h : l.drop frm = D) : l.getD frm 0 = D.getD 0 0 := by
  subst h; simp [List.getD_eq_getElem?_getD]
theorem blk_iterAt {w : World} {g k p q : Nat} {s : ByteArray} {t : TypeId} {cs : Array Value} (h : Blk w g t cs) (hk : w.heap[k]? = some (.stringIter s p)) : Blk (w.iterAt k s q) g t cs := by
  have hne : g ≠ k := by intro e; subst e; unfold Blk at h; rw [h] at hk; cases hk
  have h1 := Lib.below_iterAt (Below.refl 0 w) (k := k) (Nat.zero_le _) s q
  unfold Blk at *
  rw [← h]
  simp [World.iterAt, Array.getElem?_modify, Array.getElem?_setIfInBounds, hne, Ne.symm hne]
theorem iterPos_of {w : World} {k p : Nat} {s : ByteArray} (h : w.heap[k]? = some (.stringIter s p)) : w.iterPos k = p := by simp [World.iterPos, h]
theorem rd_bad {neg : Bool} {D : List UInt8} {pos : Nat} {x : Int} (hp : pos < D.length) (h1 : ∀ i, i < pos → badAt neg D i = false) (h2 : badAt neg D pos = true) (hx : x = (if neg then 1 else 0) + (pos : Int)) : readD neg D = (0, x, 3) := by
  have hb := badN_at hp h1 h2
  unfold readD
  rw [hb, if_pos hp, hx]
theorem rd_nil {neg : Bool} {D : List UInt8} (h : D.length = 0) : readD neg D = (0, if neg then 1 else 0, 3) := by
  have : D = [] := List.eq_nil_of_length_eq_zero h
  subst this
  unfold readD
  rw [if_neg (by simp), if_pos rfl]
theorem rd_good {neg : Bool} {D : List UInt8} (h1 : ∀ i, i < D.length → badAt neg D i = false) (h : D.length ≠ 0) : readD neg D = (if neg then -(valT D : Int) else valT D, 0, 0) := by
  have hb := badN_all h1
  unfold readD
  rw [hb, if_neg (Nat.lt_irrefl _), if_neg (fun e => h (by rw [e]; rfl))]
theorem str_get (l D : List UInt8) (k : Nat) (h : l.getD k 0 = D.getD 0 0) (hk : k < (⟨l.toArray⟩ : ByteArray).size) : (⟨l.toArray⟩ : ByteArray)[k]'hk = D.getD 0 0 := by
  rw [← h]
  have : k < l.length := by simpa [ByteArray.size] using hk
  simp [List.getD_eq_getElem?_getD, this]
  rfl
theorem c48 {c : UInt8} (h : c.toNat = 48) : c = 48 := UInt8.toNat_inj.1 h
/-- what is read behind some parts -/
def accT (D : List UInt8) (ps : List Nat) : Nat := ps.foldl (fun a i => a * 10 ^ (partT 18 D i).length + valT (partT 18 D i)) 0
theorem accT_snoc (D : List UInt8) (ps : List Nat) (i : Nat) : accT D (ps ++ [i]) = accT D ps * 10 ^ (partT 18 D i).length + valT (partT 18 D i) := by unfold accT; rw [List.foldl_append]; rfl
theorem accT_range (D : List UInt8) : ∀ k, accT D (List.range k) = valT (D.take (k * 18))
  | 0 => by simp [accT, valT, valF]
  | k + 1 => by rw [List.range_succ, accT_snoc, accT_range D k, val_part]
theorem accT_all (D : List UInt8) : accT D (List.range (cutN 18 D.length)) = valT D := by
  rw [accT_range, List.take_of_length_le (cutN_all (by decide))]
theorem part18 (D : List UInt8) (i : Nat) : (partT 18 D i).length ≤ 18 := by rw [part_len]; omega
theorem accT_lt {D : List UInt8} (h : ∀ c ∈ D, figB c = true) (ps : List Nat) : accT D ps < W64 ^ ps.length := by
  have key : ∀ (ps : List Nat) (a k : Nat), a < W64 ^ k → ps.foldl (fun a i => a * 10 ^ (partT 18 D i).length + valT (partT 18 D i)) a < W64 ^ (k + ps.length) := by
    intro ps
    induction ps with
    | nil => intro a k ha; exact ha
    | cons i r ih =>
      intro a k ha
      rw [List.foldl_cons, List.length_cons, show k + (r.length + 1) = (k + 1) + r.length by omega]
      refine ih _ _ ?_
      have h1 := valT_lt _ (part_figs (z := 18) (i := i) h)
      have h2 : 10 ^ (partT 18 D i).length ≤ W64 := Nat.le_trans (Nat.pow_le_pow_right (by decide) (part18 D i)) (by decide)
      have h3 : (a + 1) * 10 ^ (partT 18 D i).length ≤ W64 ^ k * W64 := Nat.mul_le_mul ha h2
      rw [Nat.add_mul, Nat.one_mul] at h3
      rw [Nat.pow_succ]
      omega
  have := key ps 0 0 (Nat.lt_of_lt_of_eq Nat.zero_lt_one (Nat.pow_zero _).symm)
  rw [Nat.zero_add] at this; exact this
/-- a row of bytes as a text -/
theorem conv_str {w : World} {v : Value} {p : List UInt8} (h : IsY w v (nums p)) (hn : p ≠ []) : ((convert 57 9 v).run Tryz.prog w) = .ok (.string ⟨p.toArray⟩) w := by
  have hl : 0 < p.length := List.length_pos_iff.2 hn
  obtain ⟨A, c, rfl, h1, h2, _, h4⟩ := h
  rw [nums_len] at *
  obtain ⟨⟨b, off, sp⟩, rfl, hb, hc⟩ := h4.2 hl
  have hat : ∀ i, i < p.length → (ys (nums p))[i]? = some (.int .u8 ((p.map fun c => (c.toNat : Int)).getD i 0)) := by
    intro i hi
    rw [ys_at _ i (by rw [nums_len]; exact hi)]
    simp [yat, nums, List.getD_eq_getElem?_getD, hi]
  have h0 := hc 0 _ (hat 0 hl)
  rw [Addr.add, if_pos rfl] at h0
  have hsp : sp = none := World.cell?_spot h0
  subst hsp
  have hp := run_convert_bytes_arg (P := Tryz.prog) w 57 5 Tryz.underlying57 Tryz.underlying5 b off p.length c (p.map fun c => (c.toNat : Int)) (by simp) (fun i hi => by
    have := hc i _ (hat i hi)
    have e : (⟨b, off, none⟩ : Addr).add i = ⟨b, off + i, none⟩ := by unfold Addr.add; split <;> simp_all
    rw [← e]; exact this) 9 Tryz.underlying9
  rw [hp]
  have : strOfNums (p.map fun c => (c.toNat : Int)) = ⟨p.toArray⟩ := by
    unfold strOfNums
    have e : (List.map (fun n : Int => UInt8.ofNat n.toNat) (p.map fun c => (c.toNat : Int))) = p := by
      rw [List.map_map]
      conv => rhs; rw [← List.map_id p]
      exact List.map_congr_left fun c _ => by simp
    rw [e]
  rw [this]
theorem parse_low (p : List UInt8) (hl : p.length ≤ 18) (hn : p ≠ []) (h : ∀ c ∈ p, figB c = true) (w : World) :
    Calls Tryz.prog 45 #[.string ⟨p.toArray⟩, .int .i64 10, .int .i64 64] w fun e w' => e = .returned (.tuple #[.int .u64 (valT p : Nat), .nilIface]) ∧ Below w.heap.size w w' :=
  (parse_any ⟨p.toArray⟩ w (by simpa [ByteArray.size] using hl) hn h).mono fun e w' ⟨he, hw⟩ => ⟨he, by
    rcases hw with rfl | rfl
    · exact Below.refl _ _
    · exact Go.Joins.below_bytesWorld _ _ _ _ (Nat.le_refl _)⟩
theorem bytes_isY (w : World) (D : List UInt8) (t : TypeId) (hl : D.length ≤ 400) : IsY (Lib.bytesWorld w t ⟨D.toArray⟩) (.slice (some ⟨w.heap.size, 0, none⟩) (nums D).length (grownCap w D.length 0 t)) (nums D) := by
  refine ⟨_, _, rfl, ?_, ?_, nums_by D, by rw [ys_len, Nat.mul_one], fun hn => ⟨_, rfl, by rw [Lib.bytesWorld_size]; exact Nat.lt_succ_self _, fun j u hj => ?_⟩⟩
  · rw [nums_len]; exact grownCap_ge _ _ _ _
  · have := grownCap_le_maxLen w D.length 0 t (by unfold maxLen; omega)
    unfold maxLen at this; exact this
  · have hj' : j < D.length := by
      rcases Nat.lt_or_ge j D.length with h | h
      · exact h
      · rw [List.getElem?_eq_none (by rw [ys_len, nums_len]; exact h)] at hj; cases hj
    rw [ys_at _ j (by rw [nums_len]; exact hj')] at hj
    cases hj
    have e : (⟨w.heap.size, 0, none⟩ : Addr).add j = ⟨w.heap.size, j, none⟩ := by unfold Addr.add; split <;> simp_all
    rw [e, Lib.bytesWorld_cell w t ⟨D.toArray⟩ j (by simpa [ByteArray.size] using hj')]
    simp [yat, nums, List.getD_eq_getElem?_getD, hj']
theorem IsY.lies {w w' : World} {g n c : Nat} {l : List Nat} {o : Obj} (h : IsY w (.slice (some ⟨g, 0, none⟩) n c) l) (h1 : Lies w g o) (h2 : Lies w' g o) : IsY w' (.slice (some ⟨g, 0, none⟩) n c) l := by
  obtain ⟨A, c', e, k1, k2, k3, k4⟩ := h
  cases e
  refine ⟨_, _, rfl, k1, k2, k3, k4.1, fun hn => ?_⟩
  obtain ⟨ad, e, hb, hc⟩ := k4.2 hn
  cases e
  refine ⟨_, rfl, (Array.getElem?_eq_some_iff.1 h2.1).1, fun j u hj => ?_⟩
  rw [← hc j u hj]
  exact World.cell?_of_block (by rw [block_of_add]; exact h2.1.trans h1.1.symm)
theorem Lies.below {w w' : World} {g B : Nat} {o : Obj} (h : Lies w g o) (hb : Below B w w') (hg : g < B) : Lies w' g o := ⟨(hb.block g hg).trans h.1, h.2⟩
theorem Lies.alloc {w : World} {g : Nat} {o : Obj} (h : Lies w g o) (o' : Obj) : Lies (w.alloc o') g o := ⟨(Below.heap_alloc w o' g (Array.getElem?_eq_some_iff.1 h.1).1).trans h.1, h.2⟩
theorem Lies.far {w : World} {g : Nat} {o : Obj} (h : Lies w g o) {p : Addr} (hp : g ≠ p.block) (u : Value) : Lies (w.setCell p u) g o := ⟨(Below.heap_setCell w p u g hp).trans h.1, h.2⟩
/-- what holds behind some parts -/
def ReadI (D : List UInt8) (g X : Nat) (ob : Obj) (ps : List Nat) (W : World) : Prop :=
  (∃ nv, Blk W X 23 #[nv] ∧ IsN W nv (accT D ps)) ∧ Blk W g 25 #[.bool false, .slice none 0 0] ∧ Lies W (X + 1) ob
theorem blkR_own {X Y : World} {row : Option Nat} {g : Nat} {t : TypeId} {cs : Array Value} (h : Blk X g t cs) (hg : X.grownBy Y row) (hr : ∀ r, row = some r → ∃ o : Obj, X.heap[r]? = some o ∧ o.isCells = false) : Blk Y g t cs :=
  h.grown hg fun e => by
    obtain ⟨o, ho, hc⟩ := hr g e.symm
    unfold Blk at h; rw [h] at ho; cases ho; cases hc
theorem isL_own {X Y : World} {row : Option Nat} {v : Value} {l : List Nat} (h : IsL X v l) (hg : X.grownBy Y row) (hr : ∀ r, row = some r → ∃ o : Obj, X.heap[r]? = some o ∧ o.isCells = false) : IsL Y v l := by
  obtain ⟨A, c, rfl, h1, h2, h3, h4⟩ := h
  refine ⟨A, c, rfl, h1, h2, h3, h4.1, fun hn => ?_⟩
  obtain ⟨ad, rfl, hb, hc⟩ := h4.2 hn
  refine ⟨ad, rfl, Nat.lt_of_lt_of_le hb hg.size, fun j y hj => ?_⟩
  rw [← hc j y hj]
  have hne : some ad.block ≠ row := fun e => by
    obtain ⟨o, ho, hcl⟩ := hr _ e.symm
    have := hc j y hj
    unfold World.cell? at this
    rw [block_of_add, ho] at this
    cases o <;> simp_all [Obj.isCells]
  exact World.cell?_of_block (by rw [block_of_add]; exact hg.block ad.block hb hne)
theorem ReadI.own {D : List UInt8} {g x : Nat} {ob : Obj} {ps : List Nat} {X Y : World} {row : Option Nat} (h : ReadI D g x ob ps X) (hg : X.grownBy Y row) (hr : ∀ r, row = some r → ∃ o : Obj, X.heap[r]? = some o ∧ o.isCells = false) : ReadI D g x ob ps Y := by
  obtain ⟨⟨nv, h1, h2⟩, h3, h4⟩ := h
  exact ⟨⟨nv, blkR_own h1 hg hr, isL_own h2 hg hr⟩, blkR_own h3 hg hr, h4.own hg hr⟩
set_option maxRecDepth 100000 in
set_option maxHeartbeats 4000000 in
theorem zread_neg (l D : List UInt8) (hl : l.length ≤ 400) (hneg : Lib.hasPrefix l [45] = true) (hD : l.drop 1 = D) (hf : 1 ≤ l.length) (w : World) :
    CallsIn Fence.wide 9 Tryz.prog 22 #[strV l] w fun e w' => ∃ zv, e = .returned (.tuple #[zv, .int .i64 (readD true D).2.1, .int .i64 (readD true D).2.2]) ∧ IsZ w' zv (readD true D).1 ∧ Below w.heap.size w w' := by
  have hP := fun n w => (callsIn_wide (n := n)).2 (prefix_any ⟨l.toArray⟩ ⟨#[45]⟩ w)
  rw [show (⟨l.toArray⟩ : ByteArray).data.toList = l from rfl, show (⟨#[45]⟩ : ByteArray).data.toList = [45] from rfl, hneg] at hP
  have hl1 : decide ((400 : Int) < (l.length : Int)) = false := decide_eq_false (by omega)
  have hsz : (⟨l.toArray⟩ : ByteArray).size = l.length := by simp [ByteArray.size]
  have h1l : (1 : Int) ≤ (l.length : Int) := by omega
  have hcut := cut_str l D 1 hD hf
  have hDl : D.length = l.length - 1 := by rw [← hD, List.length_drop]
  have hgets := get_cut l D 1 hD
  obtain ⟨s, hs⟩ : ∃ s : ByteArray, s = ⟨D.toArray⟩ := ⟨_, rfl⟩
  have hss : s.size = D.length := by rw [hs]; rfl
  rw [← hs] at hcut
  have HS := Lib.hid hs
  have HDL := Lib.hid hDl
  clear hD hf hneg hs hDl
  refine callsIn_of_wp_marks Tryz.func22 rfl trivial ?_ rfl
  simp only [Tryz.ntmps22, List.size_toArray, List.length_cons, List.length_nil, Nat.reduceAdd, Nat.reduceSub, Array.replicate_succ, Array.replicate_zero, List.push_toArray, List.append_toArray, List.nil_append, List.cons_append]
  gi_wp2_with (refine ⟨trivial, ?_⟩; gi_at_call 43; refine (hP _ _).mono ?_; rintro e w1 ⟨rfl, rfl⟩)
  have HCUT := Lib.hid hcut
  have H1L := Lib.hid h1l
  clear hP hl1 hcut h1l
  have hZ0 := (Blk.new w 25 #[.bool false, .slice none 0 0]).alloc (.stringIter s 0)
  have hB0 := ((Below.refl _ w).alloc (Nat.le_refl _) (.cells #[.bool false, .slice none 0 0] 25)).alloc (by simp) (.stringIter s 0)
  have hI0 := World.iter_heap (w.alloc (.cells #[.bool false, .slice none 0 0] 25)) s 0
  rw [World.size_alloc] at hI0
  gi_loopw [7] (fun lst wr => ∃ pos : Nat, pos ≤ D.length ∧ lst = .int .i64 ((1 + pos : Nat) : Int) ∧ (∀ i, i < pos → badAt true D i = false) ∧ wr.heap[w.heap.size + 1]? = some (.stringIter s pos) ∧ Blk wr w.heap.size 25 #[.bool false, .slice none 0 0] ∧ Below w.heap.size w wr) (fun _ wr => 401 - wr.iterPos (w.heap.size + 1))
  case atStart => exact ⟨0, Nat.zero_le _, rfl, fun _ h => absurd h (Nat.not_lt_zero _), hI0, hZ0, hB0⟩
  case round =>
    obtain ⟨pos, hpos, rfl, hbad, hit, hZ, hBel⟩ := hrel
    clear hI0 hZ0 hB0
    have hp0 := iterPos_of hit
    have hszw := hZ.lt
    have hD4 : D.length ≤ 400 := by have := HDL.out; omega
    by_cases hp : pos < D.length
    · have hps : pos < s.size := by omega
      have hnx : ∀ ty, (Instr.next (.pointer (some ⟨w.heap.size + 1, 0, none⟩)) true ty).run Tryz.prog wr = _ := fun ty => Lib.run_next_any_at wr (w.heap.size + 1) s pos ty hit hps
      obtain ⟨c, hc⟩ : ∃ c, c = D.getD pos 0 := ⟨_, rfl⟩
      have hsc : s[pos]'hps = c := by subst hc; have := HS.out; subst this; simp [hp]; rfl
      obtain ⟨d, hd⟩ : ∃ d, d = Utf8.decode s pos := ⟨_, rfl⟩
      rw [← hd] at hnx
      have hit2 := Lib.iterAt_heap wr (w.heap.size + 1) s pos (pos + d.2) hit
      have hbel2 := Lib.below_iterAt hBel (k := w.heap.size + 1) (by omega) s (pos + d.2)
      have hZ2 : Blk (wr.iterAt (w.heap.size + 1) s (pos + d.2)) w.heap.size 25 #[.bool false, .slice none 0 0] := blk_iterAt hZ hit
      obtain ⟨W1, hW1⟩ : ∃ W1, W1 = wr.iterAt (w.heap.size + 1) s (pos + d.2) := ⟨_, rfl⟩
      rw [← hW1] at hnx hit2 hbel2 hZ2
      have hfr2 := hZ2.frozen
      have hc20 := hZ2.cell 0
      have hc21 := hZ2.cell 1
      have hw1 : IntKind.i64.wrap ((1 : Int) + (pos : Int)) = ((1 + pos : Nat) : Int) := by rw [IntKind.wrap_i64]; omega
      have hw2 : IntKind.i64.wrap (((1 + pos : Nat) : Int) + 1) = ((1 + (pos + 1) : Nat) : Int) := by rw [IntKind.wrap_i64]; omega
      have hrng : ((d.1 : Nat) : Int) ≤ 2147483647 := by have := decode_le s pos; rw [← hd] at this; omega
      have hfrm : D.getD 0 0 = D.getD 0 0 := rfl
      have HIT := Lib.hid hit
      have HBAD := Lib.hid hbad
      have HC := Lib.hid hc
      clear hit hbad hc hZ hBel
      have hbc : badAt true D pos = (!figB c || (decide (pos ≠ 0) && decide (D.getD 0 0 = 48)) || (decide (pos = 0) && (decide (c = 48) && true))) := by rw [HC.out]; rfl
      have HBC := Lib.hid hbc
      clear hbc
      by_cases hfig : figB c = true
      · have hdf := rune_fig s pos hps (by rw [hsc]; exact hfig)
        rw [← hd, hsc] at hdf
        have hdf1 : d = (c.toNat, 1) := hdf
        subst hdf1
        have hc48 : 48 ≤ c.toNat ∧ c.toNat ≤ 57 := by unfold figB at hfig; rw [Bool.and_eq_true, decide_eq_true_eq, decide_eq_true_eq] at hfig; exact hfig
        have hd1 : decide (((c.toNat : Nat) : Int) < 48) = false := decide_eq_false (by omega)
        have hd2 : decide ((57 : Int) < ((c.toNat : Nat) : Int)) = false := decide_eq_false (by omega)
        clear hd hdf hW1 hsc
        by_cases p0 : pos = 0
        · subst p0
          by_cases hz : c.toNat = 48
          · have hd3 : (((c.toNat : Nat) : Int) == 48) = true := by rw [hz]; rfl
            gi_wp2_with fail
            have hnew : badAt true D 0 = true := by rw [HBC.out, c48 hz]; rfl
            have hrd := rd_bad (pos := 0) (x := 1) hp HBAD.out hnew (by first | rfl | simp)
            have hZ3 := (hZ2.set_ 0 (.bool false)).set_ 1 (.slice none 0 0)
            have q0 := hZ3.cell 0
            have q1 := hZ3.cell 1
            have hB3 := bset (bset hbel2 (X := w.heap.size) (i := 0) (Nat.le_refl _) (.bool false)) (X := w.heap.size) (i := 1) (Nat.le_refl _) (.slice none 0 0)
            refine ⟨.tuple #[.agg #[.bool false, .slice none 0 0], .int .i64 1, .int .i64 3], ?_, ⟨.agg #[.bool false, .slice none 0 0], by rw [hrd], ?_, hB3⟩⟩
            · simp at q0 q1
              simp [results, Tryz.f22, go_sem, q0, q1]
            · rw [hrd]; exact ⟨_, rfl, IsN.zero _⟩
          · have hd3 : (((c.toNat : Nat) : Int) == 48) = false := by rw [beq_eq_false_iff_ne]; omega
            gi_wp2_with fail
            have hc0 : c ≠ 48 := fun e => hz (by rw [e]; rfl)
            have hnew : badAt true D 0 = false := by rw [HBC.out, hfig]; simp [hc0]
            refine ⟨⟨0 + 1, by omega, congrArg (Value.int .i64) (by omega), ?_, hit2, hZ2, hbel2⟩, ?_⟩
            · intro i hi
              rcases Nat.lt_or_ge i 0 with h | h
              · exact HBAD.out i h
              · obtain rfl : i = 0 := by omega
                exact hnew
            · rw [iterPos_of hit2, hp0]; dsimp only; omega
        · have hd4 : ((pos : Int) == 0) = false := by rw [nat_eq0]; exact decide_eq_false p0
          obtain ⟨c0, hc0⟩ : ∃ c0, c0 = D.getD 0 0 := ⟨_, rfl⟩
          have hgx := fun hk => str_get l D 1 hgets hk
          have hlt : (1 : Int) < (l.length : Int) := by have := HDL.out; omega
          rw [← hc0] at hgx
          have HC0 := Lib.hid hc0
          clear hgets hc0
          by_cases hx : c0.toNat = 48
          · have hd6 : (((c0.toNat : Nat) : Int) == 48) = true := by rw [hx]; rfl
            gi_wp2_with fail
            have hx1 : D.getD 0 0 = 48 := HC0.out.symm.trans (c48 hx)
            have hnew : badAt true D pos = true := by rw [HBC.out, hfig, decide_eq_true hx1, decide_eq_true p0]; rfl
            have hrd := rd_bad (x := (1 + (pos : Int))) hp HBAD.out hnew (by first | rfl | simp)
            have hZ3 := (hZ2.set_ 0 (.bool false)).set_ 1 (.slice none 0 0)
            have q0 := hZ3.cell 0
            have q1 := hZ3.cell 1
            have hB3 := bset (bset hbel2 (X := w.heap.size) (i := 0) (Nat.le_refl _) (.bool false)) (X := w.heap.size) (i := 1) (Nat.le_refl _) (.slice none 0 0)
            refine ⟨.tuple #[.agg #[.bool false, .slice none 0 0], .int .i64 (1 + (pos : Int)), .int .i64 3], ?_, ⟨.agg #[.bool false, .slice none 0 0], by rw [hrd], ?_, hB3⟩⟩
            · simp at q0 q1
              simp [results, Tryz.f22, go_sem, q0, q1]
            · rw [hrd]; exact ⟨_, rfl, IsN.zero _⟩
          · have hd6 : (((c0.toNat : Nat) : Int) == 48) = false := by rw [beq_eq_false_iff_ne]; omega
            gi_wp2_with fail
            have hx1 : D.getD 0 0 ≠ 48 := fun e => hx (by rw [HC0.out, e]; rfl)
            have hnew : badAt true D pos = false := by rw [HBC.out, hfig, decide_eq_false hx1, decide_eq_false p0]; simp
            refine ⟨⟨pos + 1, by omega, congrArg (Value.int .i64) (by omega), ?_, hit2, hZ2, hbel2⟩, ?_⟩
            · intro i hi
              rcases Nat.lt_or_ge i pos with h | h
              · exact HBAD.out i h
              · obtain rfl : i = pos := by omega
                exact hnew
            · rw [iterPos_of hit2, hp0]; dsimp only; omega
      · have hfig' : figB c = false := by cases h : figB c <;> simp_all
        have hdf := rune_not s pos hps (by rw [hsc]; exact hfig')
        rw [← hd] at hdf
        have hnew : badAt true D pos = true := by rw [HBC.out, hfig']; rfl
        clear hd hW1 hsc
        obtain ⟨r, wd⟩ := d
        dsimp only at hdf hrng
        by_cases h48 : r < 48
        · have hd1 : decide (((r : Nat) : Int) < 48) = true := decide_eq_true (by omega)
          gi_wp2_with fail
          have hrd := rd_bad (x := (1 + (pos : Int))) hp HBAD.out hnew (by first | rfl | simp)
          have hZ3 := (hZ2.set_ 0 (.bool false)).set_ 1 (.slice none 0 0)
          have q0 := hZ3.cell 0
          have q1 := hZ3.cell 1
          have hB3 := bset (bset hbel2 (X := w.heap.size) (i := 0) (Nat.le_refl _) (.bool false)) (X := w.heap.size) (i := 1) (Nat.le_refl _) (.slice none 0 0)
          refine ⟨.tuple #[.agg #[.bool false, .slice none 0 0], .int .i64 (1 + (pos : Int)), .int .i64 3], ?_, ⟨.agg #[.bool false, .slice none 0 0], by rw [hrd], ?_, hB3⟩⟩
          · simp at q0 q1
            simp [results, Tryz.f22, go_sem, q0, q1]
          · rw [hrd]; exact ⟨_, rfl, IsN.zero _⟩
        · have hd1 : decide (((r : Nat) : Int) < 48) = false := decide_eq_false (by omega)
          have hd2 : decide ((57 : Int) < ((r : Nat) : Int)) = true := decide_eq_true (by omega)
          gi_wp2_with fail
          have hrd := rd_bad (x := (1 + (pos : Int))) hp HBAD.out hnew (by first | rfl | simp)
          have hZ3 := (hZ2.set_ 0 (.bool false)).set_ 1 (.slice none 0 0)
          have q0 := hZ3.cell 0
          have q1 := hZ3.cell 1
          have hB3 := bset (bset hbel2 (X := w.heap.size) (i := 0) (Nat.le_refl _) (.bool false)) (X := w.heap.size) (i := 1) (Nat.le_refl _) (.slice none 0 0)
          refine ⟨.tuple #[.agg #[.bool false, .slice none 0 0], .int .i64 (1 + (pos : Int)), .int .i64 3], ?_, ⟨.agg #[.bool false, .slice none 0 0], by rw [hrd], ?_, hB3⟩⟩
          · simp at q0 q1
            simp [results, Tryz.f22, go_sem, q0, q1]
          · rw [hrd]; exact ⟨_, rfl, IsN.zero _⟩
    · have hpe : pos = D.length := by omega
      have hnx : ∀ ty, (Instr.next (.pointer (some ⟨w.heap.size + 1, 0, none⟩)) true ty).run Tryz.prog wr = _ := fun ty => Lib.run_next_end_at wr (w.heap.size + 1) s pos ty hit (by omega)
      clear hp0
      by_cases h0 : D.length = 0
      · have hp00 : pos = 0 := by omega
        subst hp00
        have hrd := rd_nil (neg := true) h0
        have HRD := Lib.hid hrd
        have hf2 := hZ.frozen
        have k0 := hZ.cell 0
        have k1 := hZ.cell 1
        have H0 := Lib.hid h0
        clear h0 hpe hrd hpos hp hss hD4 hsz hl
        gi_wp2_with fail
        have hZ3 := (hZ.set_ 0 (.bool false)).set_ 1 (.slice none 0 0)
        have q0 := hZ3.cell 0
        have q1 := hZ3.cell 1
        have hB3 := bset (bset hBel (X := w.heap.size) (i := 0) (Nat.le_refl _) (.bool false)) (X := w.heap.size) (i := 1) (Nat.le_refl _) (.slice none 0 0)
        refine ⟨.tuple #[.agg #[.bool false, .slice none 0 0], .int .i64 l.length, .int .i64 3], ?_, ⟨.agg #[.bool false, .slice none 0 0], ?_, ?_, hB3⟩⟩
        · simp at q0 q1
          simp [results, Tryz.f22, go_sem, q0, q1]
        · rw [HRD.out, show ((l.length : Nat) : Int) = 1 by have := HDL.out; have := H1L.out; have := H0.out; omega]; rfl
        · rw [HRD.out]; exact ⟨_, rfl, IsN.zero _⟩
      · have hd5 : ((((1 + pos : Nat) : Int)) == 1) = false := by rw [beq_eq_false_iff_ne]; omega
        have hall : ∀ i, i < D.length → badAt true D i = false := by rw [← hpe]; exact hbad
        have hrd := rd_good hall h0
        have hfg := (good_figs (by rw [badN_all hall]; exact Nat.lt_irrefl _)).1
        have HRD := Lib.hid hrd
        have HFG := Lib.hid hfg
        have hcut := HCUT.out
        have h1l := H1L.out
        have hcv := fun W : World => Lib.run_convert_string_bytes (P := Tryz.prog) W 9 57 5 s Tryz.underlying9 Tryz.underlying57 Tryz.underlying5
        have hst := HS.out
        have hY0 : IsY (Lib.bytesWorld (wr.alloc (.cells #[.slice none 0 0] 23)) 5 s) (.slice (some ⟨wr.heap.size + 1, 0, none⟩) (nums D).length (grownCap (wr.alloc (.cells #[.slice none 0 0] 23)) D.length 0 5)) (nums D) := by
          have := bytes_isY (wr.alloc (.cells #[.slice none 0 0] 23)) D 5 hD4
          rw [World.size_alloc] at this
          rw [hst]; exact this
        have hbn := Lib.bytesWorld_at_new (wr.alloc (.cells #[.slice none 0 0] 23)) 5 s
        rw [World.size_alloc] at hbn
        have hb0 := Go.Joins.below_bytesWorld _ (wr.alloc (.cells #[.slice none 0 0] 23)) 5 s (Nat.le_refl _)
        have hbz := Lib.bytesWorld_size (wr.alloc (.cells #[.slice none 0 0] 23)) 5 s
        rw [World.size_alloc] at hbz
        have HB := Lib.hid (And.intro hY0 (And.intro hbn (And.intro hb0 hbz)))
        clear h0 hpe hrd hpos hp hbad hall hfg hY0 hbn hb0 hbz hst
        gi_wp2_with fail
        refine ⟨trivial, ?_⟩
        obtain ⟨WB, hWB⟩ : ∃ WB, WB = Lib.bytesWorld (wr.alloc (.cells #[.slice none 0 0] 23)) 5 s := ⟨_, rfl⟩
        obtain ⟨c, hc⟩ : ∃ c, c = grownCap (wr.alloc (.cells #[.slice none 0 0] 23)) D.length 0 5 := ⟨_, rfl⟩
        obtain ⟨hY0, hbn, hb0, hbz⟩ := HB.out
        clear HB hcv
        rw [← hWB] at hY0 hbn hb0 hbz ⊢
        rw [← hc] at hY0 ⊢
        have hN0 : Blk WB wr.heap.size 23 #[.slice none 0 0] := (Blk.new wr 23 #[.slice none 0 0]).below hb0 (by rw [World.size_alloc]; exact Nat.lt_succ_self _)
        have hZ1 : Blk WB w.heap.size 25 #[.bool false, .slice none 0 0] := (hZ.alloc _).below hb0 (by rw [World.size_alloc]; omega)
        have hB1 : Below w.heap.size w WB := (hBel.alloc hBel.size (.cells #[.slice none 0 0] 23)).trans (hb0.mono (by rw [World.size_alloc]; have := hBel.size; omega))
        have hX : w.heap.size < wr.heap.size := hZ.lt
        clear hWB hc hb0 hZ hBel hit hnx hcut h1l hd5
        refine (chunkY_in 8 _ _ _ 18 (by decide) _).mono ?_
        rintro e w' ⟨rfl, rfl⟩
        gi_wp2_with fail
        have hL0 : Lies WB (wr.heap.size + 1) _ := ⟨hbn, rfl⟩
        have hL3 := (hL0.alloc (.cells #[.slice (some ⟨wr.heap.size + 1, 0, none⟩) D.length c] 57)).alloc (.cells #[.int .i64 18] 3)
        have hY3 := hY0.lies hL0 hL3
        have hN3 := (hN0.alloc (.cells #[.slice (some ⟨wr.heap.size + 1, 0, none⟩) D.length c] 57)).alloc (.cells #[.int .i64 18] 3)
        have hZ3 := (hZ1.alloc (.cells #[.slice (some ⟨wr.heap.size + 1, 0, none⟩) D.length c] 57)).alloc (.cells #[.int .i64 18] 3)
        have hC3 := (Blk.new WB 57 #[.slice (some ⟨wr.heap.size + 1, 0, none⟩) D.length c]).alloc (.cells #[.int .i64 18] 3)
        have hD3 := Blk.new (WB.alloc (.cells #[.slice (some ⟨wr.heap.size + 1, 0, none⟩) D.length c] 57)) 3 #[.int .i64 18]
        have hB3 := (hB1.alloc hB1.size (.cells #[.slice (some ⟨wr.heap.size + 1, 0, none⟩) D.length c] 57)).alloc (by have := hB1.size; simp; omega) (.cells #[.int .i64 18] 3)
        obtain ⟨W1, hW1⟩ : ∃ W1, W1 = (WB.alloc (.cells #[.slice (some ⟨wr.heap.size + 1, 0, none⟩) D.length c] 57)).alloc (.cells #[.int .i64 18] 3) := ⟨_, rfl⟩
        have hsz1 : W1.heap.size = wr.heap.size + 4 := by rw [hW1]; simp; omega
        rw [← hW1] at hL3 hY3 hN3 hZ3 hC3 hD3 hB3 ⊢
        rw [World.size_alloc] at hD3
        clear hW1 hL0 hY0 hN0 hZ1 hB1 hbn
        generalize Obj.cells _ _ _ = ob at hL3
        generalize wr.heap.size = X at *
        generalize WB.heap.size = Y at *
        obtain rfl : Y = X + 1 + 1 := by omega
        clear hbz
        have hcc := hC3.cell 0
        have hcd := hD3.cell 0
        rw [← nums_len D] at hcc
        have hst := chunkY_stops (X + 1 + 1) w.heap.size c 18 (by decide) (by decide) (some ⟨X + 1, 0, none⟩) (nums D) (by rw [nums_len]; omega) W1 hY3 W1 (by omega) hcc hcd
        refine wpIn_rangeFunc_ownG (n := 9) rfl (by omega) (gf := 65) (lb := #[.pointer (some ⟨X + 1 + 1, 0, none⟩), .pointer (some ⟨X + 1 + 1 + 1, 0, none⟩)]) rfl trivial (enters_of Tryz.func65 (by kernel_rfl) rfl)
          hst KR.trans (KR.put (by omega) (by omega)) (Below.refl _ _) (fun _ => rfl)
          (fun pre W => ReadI D w.heap.size X ob (pre.map (·.1)) W ∧ (Below w.heap.size w W ∧ W1.heap.size ≤ W.heap.size))
          (fun _ _ _ => False)
          ?oI ?oX ?st ?a1 ?assign ?body ?done ?stop
        case assign =>
          intro lr x W K hK
          gi_wp2
          exact hK
        case oI => exact OwnFrom.and (Own.from (show Own (fun (q : List (PrtY 18 (nums D))) (W : World) => ReadI D w.heap.size X ob (q.map (·.1)) W) from fun q X Y row hs hg hr => ReadI.own hs hg hr) _) (OwnFrom.and (ownFrom_below (by omega) (by omega)) (Own.from (show Own (fun (_ : List (PrtY 18 (nums D))) (W : World) => W1.heap.size ≤ W.heap.size) from fun q X Y row hs hg hr => Nat.le_trans hs hg.size) _))
        case oX => exact fun _ _ _ _ _ hs _ _ => hs
        case st => exact ⟨⟨⟨_, hN3, IsN.zero _⟩, hZ3, hL3⟩, hB3, Nat.le_refl _⟩
        case body =>
          rintro lr pre x W ⟨⟨⟨nv, hN, hV⟩, hZ, hL⟩, hBel, hWs⟩ hlt
          have hY := hY3.lies hL3 hL
          have hp := hY.part x.2
          obtain ⟨ps, hps⟩ : ∃ y, y = pre.map (fun y : PrtY 18 (nums D) => y.1) := ⟨_, rfl⟩
          have hnew : (pre ++ [x]).map (fun y : PrtY 18 (nums D) => y.1) = ps ++ [x.1] := by rw [List.map_append, ← hps]; rfl
          have hplen : ps.length ≤ 400 := by have := cutN_le (z := 18) (n := (nums D).length) (by decide); rw [hps, List.length_map]; rw [nums_len] at *; omega
          rw [← hps] at hV
          obtain ⟨p, hpe⟩ : ∃ p, p = partT 18 D x.1 := ⟨_, rfl⟩
          have hpart : partY 18 (nums D) x.1 = nums p := by rw [hpe]; exact nums_part 18 D x.1
          rw [hpart] at hp
          obtain ⟨pv, hpv⟩ : ∃ pv, pv = partVY (some ⟨X + 1, 0, none⟩) 18 (nums D).length x.1 := ⟨_, rfl⟩
          rw [← hpv] at hp
          try dsimp only
          rw [← hpv]
          have hx2 : x.1 * 18 < D.length := by have h := x.2; have e := nums_len D; omega
          have hp18 : p.length ≤ 18 := by rw [hpe]; exact part18 D x.1
          have hp0 : p ≠ [] := by intro e; have := part_len 18 D x.1; rw [← hpe, e, List.length_nil] at this; omega
          have hpf : ∀ c ∈ p, figB c = true := by rw [hpe]; exact part_figs HFG.out
          have hacc : accT D (ps ++ [x.1]) = accT D ps * 10 ^ p.length + valT p := by rw [accT_snoc, hpe]
          have hlim : (limbs (accT D ps)).length ≤ 400 := Nat.le_trans (limbs_len_le (accT_lt HFG.out ps)) hplen
          have hten : 10 ^ p.length < W64 := Nat.lt_of_le_of_lt (Nat.pow_le_pow_right (by decide) hp18) (by decide)
          have hval : valT p < W64 := Nat.lt_trans (valT_lt p hpf) hten
          have hnew' := And.intro hnew hacc
          have HNA := Lib.hid hnew'
          clear hnew hacc hnew' hpe hpart hlt hx2 hps
          generalize accT D ps = a at *
          have hcs := conv_str hp hp0
          have hPa := parse_low p hp18 hp0 hpf
          obtain ⟨Ap, Cp, hpv2, _⟩ := id hp
          rw [nums_len] at hpv2
          subst hpv2
          clear hpv hp hY hpf hp0
          obtain ⟨A0, L0, C0, rfl⟩ := hV.frm
          have hmx : Tryz.prog.follows .mixedOrders = true := by kernel_rfl
          gi_wp2_with fail
          refine ⟨trivial, ?_⟩
          refine (CallsIn.inRound lr (callsIn_wide.2 (hPa _))).mono ?_
          rintro e w2 ⟨rfl, b2⟩
          have hV2 := hV.below b2
          have hN2 : Blk w2 X 23 #[.slice A0 L0 C0] := hN.below b2 hN.lt
          clear hcs hPa
          have hW64 : W64 = 18446744073709551616 := rfl
          gi_wp2_with fail
          gi_loopw [15, 86] (fun t k wr => ∃ j : Nat, j ≤ p.length ∧ t = .int .u64 ((10 ^ j : Nat) : Int) ∧ k = .int .i64 j ∧ wr = w2) (fun _ k _ => 19 - (RowKit.intOf k).toNat)
          case atStart => exact ⟨0, Nat.zero_le _, rfl, rfl, rfl⟩
          case round =>
            obtain ⟨j, hj, rfl, rfl, rfl⟩ := hrel
            by_cases hjl : j < p.length
            · have hd7 : decide ((j : Int) < (p.length : Int)) = true := decide_eq_true (by omega)
              have hT18 : 10 ^ (j + 1) < W64 := Nat.lt_of_le_of_lt (Nat.pow_le_pow_right (by decide) hjl) hten
              obtain ⟨T, hT⟩ : ∃ T, T = 10 ^ j := ⟨_, rfl⟩
              rw [Nat.pow_succ, ← hT] at hT18
              have hw3 : IntKind.u64.wrap ((T : Int) * 10) = ((T * 10 : Nat) : Int) := by rw [IntKind.wrap_u64]; omega
              have hT2 : T * 10 = 10 ^ (j + 1) := by rw [Nat.pow_succ, hT]
              have HT := Lib.hid hT2
              rw [← hT]
              clear hT hT2
              gi_wp2_with fail
              refine ⟨⟨j + 1, by omega, congrArg (Value.int .u64) (by rw [← HT.out]; omega), congrArg (Value.int .i64) (by omega), by simp⟩, by simp [RowKit.intOf]; omega⟩
            · obtain rfl : j = p.length := by omega
              have hd7 : decide ((p.length : Int) < (p.length : Int)) = false := decide_eq_false (by omega)
              obtain ⟨T, hT⟩ : ∃ T, T = 10 ^ p.length := ⟨_, rfl⟩
              rw [← hT] at hten
              have HT := Lib.hid hT
              rw [← hT]
              clear hT
              obtain ⟨V, hVV⟩ : ∃ V, V = valT p := ⟨_, rfl⟩
              rw [← hVV] at hval
              have HV := Lib.hid hVV
              rw [← hVV]
              clear hVV
              gi_wp2_with fail
              have hOt := fun w => of_any T hten w
              have hOv := fun w => of_any V hval w
              refine wpInR_region_held (S := fun _ => True) hmx (by kernel_rfl) trivial (fun hHeld => ?_)
              have dd : Below W.heap.size W wr.drew := b2.drew
              have hVd : IsN wr.drew (.slice A0 L0 C0) a := hV2.below (Below.refl _ _).drew
              generalize wr.drew = wd at *
              have md : Blk wd X 23 #[.slice A0 L0 C0] := hN.below dd hN.lt
              refine wpAnyH_take (i := 1) (v := ?s_v1) rfl (by kernel_rfl) (by kernel_rfl) (by kernel_rfl) (fun _ _ _ h => h) (Or.inl ⟨by kernel_rfl, ?s_hy1⟩) (by assumption) ?s_rest1
              case s_hy1 => (intro w hSw; (try dsimp only at hSw); go_simp; try (with_reducible rfl))
              try simp only [Act.put, lay1, lay2, lay3, lay4, lay5, lay6]
              refine wpAnyH_take (i := 4) (v := ?s_v4) rfl (by kernel_rfl) (by kernel_rfl) (by kernel_rfl) (fun _ _ _ h => h) (Or.inl ⟨by kernel_rfl, ?s_hy4⟩) (by assumption) ?s_rest4
              case s_hy4 => (intro w hSw; (try dsimp only at hSw); go_simp; try (with_reducible rfl))
              try simp only [Act.put, lay1, lay2, lay3, lay4, lay5, lay6]
              refine wpAnyH_ready (rs := [0, 2]) (by kernel_rfl) (by simp) ?_
              refine AllReadyH.cons rfl ?ra (AllReadyH.cons rfl ?rb AllReadyH.nil)
              case' ra =>
                intro K hK
                have x0 := md.cell 0
                go_simp
                refine hK.out _ _ trivial (fun hHeld => ?_)
                clear x0
                clear hK K
                try simp only [Act.put, lay1, lay2, lay3, lay4, lay5, lay6]
                refine wpAnyH_ready (rs := [2]) (by kernel_rfl) (by simp) ?_
                refine AllReadyH.cons rfl (fun K hK => ?_) AllReadyH.nil
                go_simp
                refine (hOt _).mono ?_
                rintro e w3 ⟨v3, rfl, h3, b3⟩
                have d3 : Below W.heap.size W w3 := bstep dd b3
                have m3 : Blk w3 X 23 #[.slice A0 L0 C0] := hN.below d3 hN.lt
                go_wp2_with fail
                refine hK.out _ _ trivial (fun hHeld => ?_)
                clear hK K
                try simp only [Act.put, lay1, lay2, lay3, lay4, lay5, lay6]
              case' rb =>
                intro K hK
                go_simp
                refine (hOt _).mono ?_
                rintro e w3 ⟨v3, rfl, h3, b3⟩
                have d3 : Below W.heap.size W w3 := bstep dd b3
                have m3 : Blk w3 X 23 #[.slice A0 L0 C0] := hN.below d3 hN.lt
                go_wp2_with fail
                refine hK.out _ _ trivial (fun hHeld => ?_)
                clear hK K
                try simp only [Act.put, lay1, lay2, lay3, lay4, lay5, lay6]
                refine wpAnyH_ready (rs := [0]) (by kernel_rfl) (by simp) ?_
                refine AllReadyH.cons rfl (fun K hK => ?_) AllReadyH.nil
                have x0 := m3.cell 0
                go_simp
                refine hK.out _ _ trivial (fun hHeld => ?_)
                clear x0
                clear hK K
                try simp only [Act.put, lay1, lay2, lay3, lay4, lay5, lay6]
              all_goals (
                refine wpAnyH_ready (rs := [3]) (by kernel_rfl) (by simp) ?_
                refine AllReadyH.cons rfl (fun K hK => ?_) AllReadyH.nil
                go_simp
                refine (mul_any _ _ _ _ _ (hVd.below b3) h3 (Nat.le_trans hlim (by decide)) (Nat.le_trans (limbs_len_le (k := 1) (by rw [Nat.pow_one]; exact hten)) (by decide))).mono ?_
                rintro e w4 ⟨v4, rfl, h4, b4⟩
                have d4 : Below W.heap.size W w4 := bstep d3 b4
                have m4 : Blk w4 X 23 #[.slice A0 L0 C0] := hN.below d4 hN.lt
                go_wp2_with fail
                refine hK.out _ _ trivial (fun hHeld => ?_)
                clear hK K
                try simp only [Act.put, lay1, lay2, lay3, lay4, lay5, lay6]
                refine wpAnyH_ready (rs := [5]) (by kernel_rfl) (by simp) ?_
                refine AllReadyH.cons rfl (fun K hK => ?_) AllReadyH.nil
                go_simp
                refine (hOv _).mono ?_
                rintro e w5 ⟨v5, rfl, h5, b5⟩
                have d5 : Below W.heap.size W w5 := bstep d4 b5
                have m5 : Blk w5 X 23 #[.slice A0 L0 C0] := hN.below d5 hN.lt
                go_wp2_with fail
                refine hK.out _ _ trivial (fun hHeld => ?_)
                clear hK K
                try simp only [Act.put, lay1, lay2, lay3, lay4, lay5, lay6]
                refine wpAnyH_ready (rs := [6]) (by kernel_rfl) (by simp) ?_
                refine AllReadyH.cons rfl (fun K hK => ?_) AllReadyH.nil
                go_simp
                refine (add_any _ _ _ _ _ (h4.below b5) h5 (Nat.le_trans (limbs_len_mul _ _) (by have := limbs_len_le (k := 1) (n := T) (by rw [Nat.pow_one]; exact hten); omega)) (Nat.le_trans (limbs_len_le (k := 1) (by rw [Nat.pow_one]; exact hval)) (by decide))).mono ?_
                rintro e w6 ⟨v6, rfl, h6, b6⟩
                obtain ⟨A6, L6, C6, rfl⟩ := h6.frm
                have d6 : Below W.heap.size W w6 := bstep d5 b6
                have m6 : Blk w6 X 23 #[.slice A0 L0 C0] := hN.below d6 hN.lt
                go_wp2_with fail
                refine hK.out _ _ trivial (fun hHeld => ?_)
                clear hK K
                try simp only [Act.put, lay1, lay2, lay3, lay4, lay5, lay6]
                refine wpAnyH_ready (rs := [7]) (by kernel_rfl) (by simp) ?_
                refine AllReadyH.cons rfl (fun K hK => ?_) AllReadyH.nil
                have c6 := m6.cell 0
                have f6 := m6.frozen 0
                go_simp
                refine hK.out _ _ trivial (fun hHeld => ?_)
                clear hK K c6 f6
                refine wpAnyH_done (by kernel_rfl) ?_ _
                dsimp only [OnlyN]
                gi_wp2
                have hKO : KeepsOthers W w6 := ⟨d6.size, fun k o hk ho => (d6.block k (Array.getElem?_eq_some_iff.1 hk).1).trans hk⟩
                have hwW := hBel.size
                refine ⟨?_, ?_, ?_⟩
                · exact (hKO.trans (KeepsOthers.setCell _ _ _)).from _
                · exact (KR.of_below d6 (by omega) (by omega)).set (by omega) (.inl (by omega)) _
                · refine ⟨⟨⟨_, m6.set_ 0 (.slice A6 L6 C6), ?_⟩, (hZ.below d6 hZ.lt).far (p := ⟨X, 0, none⟩) (by show w.heap.size ≠ X; omega) _, (hL.below d6 (by have := (Array.getElem?_eq_some_iff.1 hL.1).1; exact this)).far (p := ⟨X, 0, none⟩) (by show X + 1 ≠ X; omega) _⟩, ?_, ?_⟩
                  · rw [HNA.out.1, HNA.out.2, ← HT.out, ← HV.out]
                    exact IsN.keepBlk h6 m6 (by simp [noU]) (fun k hk => Below.heap_setCell _ ⟨X, 0, none⟩ _ k hk) (by simp)
                  · exact (hBel.trans (d6.mono hwW)).setCell (p := ⟨X, 0, none⟩) (by show w.heap.size ≤ X; omega) _
                  · simp [World.setCell]; exact Nat.le_trans hWs d6.size)
        case done =>
          rintro D' ys W hD' hys ⟨⟨⟨nv, hN, hV⟩, hZ, hL⟩, hBel, hWs⟩ hKD
          rw [hys, nums_len, accT_all] at hV
          obtain ⟨A0, L0, C0, rfl⟩ := hV.frm
          have hMd := fun w h => (callsIn_wide (n := 8)).2 (pzmade_any true (.slice A0 L0 C0) (valT D) w h)
          have n0 := hN.cell 0
          have HKD := Lib.hid hKD
          clear hKD hys
          obtain ⟨V, hVV⟩ : ∃ V, V = valT D := ⟨_, rfl⟩
          rw [← hVV] at hV hMd HRD
          clear hVV
          gi_wp2_with fail
          refine ⟨trivial, ?_⟩
          refine (hMd _ hV).mono ?_
          rintro e w2 ⟨v2, rfl, ⟨nv2, rfl, h2⟩, b2⟩
          obtain ⟨A2, L2, C2, rfl⟩ := h2.frm
          have hZ2 := hZ.below b2 hZ.lt
          have hK2 : w2.heap[D']? = some (.deferred (some [])) := (b2.block D' (Array.getElem?_eq_some_iff.1 HKD.out).1).trans HKD.out
          have HK2 := Lib.hid hK2
          clear hK2 hMd
          obtain ⟨bz, hbz⟩ : ∃ bz, bz = decide (sided true V < 0) := ⟨_, rfl⟩
          rw [← hbz]
          have HBZ := Lib.hid hbz
          clear hbz
          have k0 := hZ2.cell 0
          have k1 := hZ2.cell 1
          have kf := hZ2.frozen
          gi_wp2_with fail
          have hZ8 := (hZ2.set_ 0 (.bool bz)).set_ 1 (.slice A2 L2 C2)
          have hB2 := hBel.trans (b2.mono hBel.size)
          have hB8 := bset (bset hB2 (X := w.heap.size) (i := 0) (Nat.le_refl _) (.bool bz)) (X := w.heap.size) (i := 1) (Nat.le_refl _) (.slice A2 L2 C2)
          have h3 := IsN.keepBlk (w' := w2.setCell ⟨w.heap.size, 0, none⟩ (.bool bz)) h2 hZ2 (by simp [noU]) (fun k hk => Below.heap_setCell _ ⟨w.heap.size, 0, none⟩ _ k hk) (by simp)
          have h4 := IsN.keepBlk (w' := (w2.setCell ⟨w.heap.size, 0, none⟩ (.bool bz)).setCell ⟨w.heap.size, 1, none⟩ (.slice A2 L2 C2)) h3 (show Blk _ _ _ #[.bool bz, .slice none 0 0] from hZ2.set_ 0 (.bool bz)) (by simp [noU]) (fun k hk => Below.heap_setCell _ ⟨w.heap.size, 1, none⟩ _ k hk) (by simp)
          have hK' := ((KeepsOthers.setCell w2 ⟨w.heap.size, 0, none⟩ (.bool bz)).trans (KeepsOthers.setCell _ ⟨w.heap.size, 1, none⟩ (.slice A2 L2 C2))).same D' _ HK2.out rfl
          refine ⟨by simp, .inl ⟨_, _, rfl, run_takeDeferred hK', ?_⟩⟩
          have hZ9 := blkR_own hZ8 (grownBy_putObj' _ D' (.deferred none)) (fun r e => by cases e; exact ⟨_, hK', rfl⟩)
          have q0 := hZ9.cell 0
          have q1 := hZ9.cell 1
          refine ⟨.tuple #[.agg #[.bool bz, .slice A2 L2 C2], .int .i64 0, .int .i64 0], ?_, ⟨_, by rw [HRD.out], ?_, hB8.trans (belowK_b (w := w) (Nat.le_refl _) _ D' _ (.deferred none) (by omega) hK' rfl rfl)⟩⟩
          · simp at q0 q1
            simp [results, Tryz.f22, go_sem, q0, q1]
          · rw [HRD.out]
            exact ⟨_, by rw [HBZ.out]; rfl, IsL.putObj h4 hK' rfl⟩
        case stop =>
          rintro D' c' pre W _ _ h _
          exact h.elim
set_option maxRecDepth 100000 in
set_option maxHeartbeats 4000000 in
theorem zread_pos (l D : List UInt8) (hl : l.length ≤ 400) (hneg : Lib.hasPrefix l [45] = false) (hD : l.drop 0 = D) (hf : 0 ≤ l.length) (w : World) :
    CallsIn Fence.wide 9 Tryz.prog 22 #[strV l] w fun e w' => ∃ zv, e = .returned (.tuple #[zv, .int .i64 (readD false D).2.1, .int .i64 (readD false D).2.2]) ∧ IsZ w' zv (readD false D).1 ∧ Below w.heap.size w w' := by
  have hP := fun n w => (callsIn_wide (n := n)).2 (prefix_any ⟨l.toArray⟩ ⟨#[45]⟩ w)
  rw [show (⟨l.toArray⟩ : ByteArray).data.toList = l from rfl, show (⟨#[45]⟩ : ByteArray).data.toList = [45] from rfl, hneg] at hP
  have hl1 : decide ((400 : Int) < (l.length : Int)) = false := decide_eq_false (by omega)
  have hsz : (⟨l.toArray⟩ : ByteArray).size = l.length := by simp [ByteArray.size]
  have h1l : (0 : Int) ≤ (l.length : Int) := by omega
  have hcut := cut_str l D 0 hD hf
  have hDl : D.length = l.length - 0 := by rw [← hD, List.length_drop]
  have hgets := get_cut l D 0 hD
  obtain ⟨s, hs⟩ : ∃ s : ByteArray, s = ⟨D.toArray⟩ := ⟨_, rfl⟩
  have hss : s.size = D.length := by rw [hs]; rfl
  rw [← hs] at hcut
  have HS := Lib.hid hs
  have HDL := Lib.hid hDl
  clear hD hf hneg hs hDl
  refine callsIn_of_wp_marks Tryz.func22 rfl trivial ?_ rfl
  simp only [Tryz.ntmps22, List.size_toArray, List.length_cons, List.length_nil, Nat.reduceAdd, Nat.reduceSub, Array.replicate_succ, Array.replicate_zero, List.push_toArray, List.append_toArray, List.nil_append, List.cons_append]
  gi_wp2_with (refine ⟨trivial, ?_⟩; gi_at_call 43; refine (hP _ _).mono ?_; rintro e w1 ⟨rfl, rfl⟩)
  have HCUT := Lib.hid hcut
  have H1L := Lib.hid h1l
  clear hP hl1 hcut h1l
  have hZ0 := (Blk.new w 25 #[.bool false, .slice none 0 0]).alloc (.stringIter s 0)
  have hB0 := ((Below.refl _ w).alloc (Nat.le_refl _) (.cells #[.bool false, .slice none 0 0] 25)).alloc (by simp) (.stringIter s 0)
  have hI0 := World.iter_heap (w.alloc (.cells #[.bool false, .slice none 0 0] 25)) s 0
  rw [World.size_alloc] at hI0
  gi_loopw [7] (fun lst wr => ∃ pos : Nat, pos ≤ D.length ∧ lst = .int .i64 ((0 + pos : Nat) : Int) ∧ (∀ i, i < pos → badAt false D i = false) ∧ wr.heap[w.heap.size + 1]? = some (.stringIter s pos) ∧ Blk wr w.heap.size 25 #[.bool false, .slice none 0 0] ∧ Below w.heap.size w wr) (fun _ wr => 401 - wr.iterPos (w.heap.size + 1))
  case atStart => exact ⟨0, Nat.zero_le _, rfl, fun _ h => absurd h (Nat.not_lt_zero _), hI0, hZ0, hB0⟩
  case round =>
    obtain ⟨pos, hpos, rfl, hbad, hit, hZ, hBel⟩ := hrel
    clear hI0 hZ0 hB0
    have hp0 := iterPos_of hit
    have hszw := hZ.lt
    have hD4 : D.length ≤ 400 := by have := HDL.out; omega
    by_cases hp : pos < D.length
    · have hps : pos < s.size := by omega
      have hnx : ∀ ty, (Instr.next (.pointer (some ⟨w.heap.size + 1, 0, none⟩)) true ty).run Tryz.prog wr = _ := fun ty => Lib.run_next_any_at wr (w.heap.size + 1) s pos ty hit hps
      obtain ⟨c, hc⟩ : ∃ c, c = D.getD pos 0 := ⟨_, rfl⟩
      have hsc : s[pos]'hps = c := by subst hc; have := HS.out; subst this; simp [hp]; rfl
      obtain ⟨d, hd⟩ : ∃ d, d = Utf8.decode s pos := ⟨_, rfl⟩
      rw [← hd] at hnx
      have hit2 := Lib.iterAt_heap wr (w.heap.size + 1) s pos (pos + d.2) hit
      have hbel2 := Lib.below_iterAt hBel (k := w.heap.size + 1) (by omega) s (pos + d.2)
      have hZ2 : Blk (wr.iterAt (w.heap.size + 1) s (pos + d.2)) w.heap.size 25 #[.bool false, .slice none 0 0] := blk_iterAt hZ hit
      obtain ⟨W1, hW1⟩ : ∃ W1, W1 = wr.iterAt (w.heap.size + 1) s (pos + d.2) := ⟨_, rfl⟩
      rw [← hW1] at hnx hit2 hbel2 hZ2
      have hfr2 := hZ2.frozen
      have hc20 := hZ2.cell 0
      have hc21 := hZ2.cell 1
      have hw1 : IntKind.i64.wrap ((0 : Int) + (pos : Int)) = ((0 + pos : Nat) : Int) := by rw [IntKind.wrap_i64]; omega
      have hw2 : IntKind.i64.wrap (((0 + pos : Nat) : Int) + 1) = ((0 + (pos + 1) : Nat) : Int) := by rw [IntKind.wrap_i64]; omega
      have hrng : ((d.1 : Nat) : Int) ≤ 2147483647 := by have := decode_le s pos; rw [← hd] at this; omega
      have hfrm : D.getD 0 0 = D.getD 0 0 := rfl
      have HIT := Lib.hid hit
      have HBAD := Lib.hid hbad
      have HC := Lib.hid hc
      clear hit hbad hc hZ hBel
      have hbc : badAt false D pos = (!figB c || (decide (pos ≠ 0) && decide (D.getD 0 0 = 48)) || (decide (pos = 0) && (decide (c = 48) && false))) := by rw [HC.out]; rfl
      have HBC := Lib.hid hbc
      clear hbc
      by_cases hfig : figB c = true
      · have hdf := rune_fig s pos hps (by rw [hsc]; exact hfig)
        rw [← hd, hsc] at hdf
        have hdf1 : d = (c.toNat, 1) := hdf
        subst hdf1
        have hc48 : 48 ≤ c.toNat ∧ c.toNat ≤ 57 := by unfold figB at hfig; rw [Bool.and_eq_true, decide_eq_true_eq, decide_eq_true_eq] at hfig; exact hfig
        have hd1 : decide (((c.toNat : Nat) : Int) < 48) = false := decide_eq_false (by omega)
        have hd2 : decide ((57 : Int) < ((c.toNat : Nat) : Int)) = false := decide_eq_false (by omega)
        clear hd hdf hW1 hsc
        by_cases p0 : pos = 0
        · subst p0
          by_cases hz : c.toNat = 48
          · have hd3 : (((c.toNat : Nat) : Int) == 48) = true := by rw [hz]; rfl
            gi_wp2_with fail
            have hnew : badAt false D 0 = false := by rw [HBC.out, hfig]; simp
            refine ⟨⟨0 + 1, by omega, congrArg (Value.int .i64) (by omega), ?_, hit2, hZ2, hbel2⟩, ?_⟩
            · intro i hi
              rcases Nat.lt_or_ge i 0 with h | h
              · exact HBAD.out i h
              · obtain rfl : i = 0 := by omega
                exact hnew
            · rw [iterPos_of hit2, hp0]; dsimp only; omega
          · have hd3 : (((c.toNat : Nat) : Int) == 48) = false := by rw [beq_eq_false_iff_ne]; omega
            gi_wp2_with fail
            have hc0 : c ≠ 48 := fun e => hz (by rw [e]; rfl)
            have hnew : badAt false D 0 = false := by rw [HBC.out, hfig]; simp [hc0]
            refine ⟨⟨0 + 1, by omega, congrArg (Value.int .i64) (by omega), ?_, hit2, hZ2, hbel2⟩, ?_⟩
            · intro i hi
              rcases Nat.lt_or_ge i 0 with h | h
              · exact HBAD.out i h
              · obtain rfl : i = 0 := by omega
                exact hnew
            · rw [iterPos_of hit2, hp0]; dsimp only; omega
        · have hd4 : ((pos : Int) == 0) = false := by rw [nat_eq0]; exact decide_eq_false p0
          obtain ⟨c0, hc0⟩ : ∃ c0, c0 = D.getD 0 0 := ⟨_, rfl⟩
          have hgx := fun hk => str_get l D 0 hgets hk
          have hlt : (0 : Int) < (l.length : Int) := by have := HDL.out; omega
          rw [← hc0] at hgx
          have HC0 := Lib.hid hc0
          clear hgets hc0
          by_cases hx : c0.toNat = 48
          · have hd6 : (((c0.toNat : Nat) : Int) == 48) = true := by rw [hx]; rfl
            gi_wp2_with fail
            have hx1 : D.getD 0 0 = 48 := HC0.out.symm.trans (c48 hx)
            have hnew : badAt false D pos = true := by rw [HBC.out, hfig, decide_eq_true hx1, decide_eq_true p0]; rfl
            have hrd := rd_bad (x := (pos : Int)) hp HBAD.out hnew (by first | rfl | simp)
            have hZ3 := (hZ2.set_ 0 (.bool false)).set_ 1 (.slice none 0 0)
            have q0 := hZ3.cell 0
            have q1 := hZ3.cell 1
            have hB3 := bset (bset hbel2 (X := w.heap.size) (i := 0) (Nat.le_refl _) (.bool false)) (X := w.heap.size) (i := 1) (Nat.le_refl _) (.slice none 0 0)
            refine ⟨.tuple #[.agg #[.bool false, .slice none 0 0], .int .i64 (pos : Int), .int .i64 3], ?_, ⟨.agg #[.bool false, .slice none 0 0], by rw [hrd], ?_, hB3⟩⟩
            · simp at q0 q1
              simp [results, Tryz.f22, go_sem, q0, q1]
            · rw [hrd]; exact ⟨_, rfl, IsN.zero _⟩
          · have hd6 : (((c0.toNat : Nat) : Int) == 48) = false := by rw [beq_eq_false_iff_ne]; omega
            gi_wp2_with fail
            have hx1 : D.getD 0 0 ≠ 48 := fun e => hx (by rw [HC0.out, e]; rfl)
            have hnew : badAt false D pos = false := by rw [HBC.out, hfig, decide_eq_false hx1, decide_eq_false p0]; simp
            refine ⟨⟨pos + 1, by omega, congrArg (Value.int .i64) (by omega), ?_, hit2, hZ2, hbel2⟩, ?_⟩
            · intro i hi
              rcases Nat.lt_or_ge i pos with h | h
              · exact HBAD.out i h
              · obtain rfl : i = pos := by omega
                exact hnew
            · rw [iterPos_of hit2, hp0]; dsimp only; omega
      · have hfig' : figB c = false := by cases h : figB c <;> simp_all
        have hdf := rune_not s pos hps (by rw [hsc]; exact hfig')
        rw [← hd] at hdf
        have hnew : badAt false D pos = true := by rw [HBC.out, hfig']; rfl
        clear hd hW1 hsc
        obtain ⟨r, wd⟩ := d
        dsimp only at hdf hrng
        by_cases h48 : r < 48
        · have hd1 : decide (((r : Nat) : Int) < 48) = true := decide_eq_true (by omega)
          gi_wp2_with fail
          have hrd := rd_bad (x := (pos : Int)) hp HBAD.out hnew (by first | rfl | simp)
          have hZ3 := (hZ2.set_ 0 (.bool false)).set_ 1 (.slice none 0 0)
          have q0 := hZ3.cell 0
          have q1 := hZ3.cell 1
          have hB3 := bset (bset hbel2 (X := w.heap.size) (i := 0) (Nat.le_refl _) (.bool false)) (X := w.heap.size) (i := 1) (Nat.le_refl _) (.slice none 0 0)
          refine ⟨.tuple #[.agg #[.bool false, .slice none 0 0], .int .i64 (pos : Int), .int .i64 3], ?_, ⟨.agg #[.bool false, .slice none 0 0], by rw [hrd], ?_, hB3⟩⟩
          · simp at q0 q1
            simp [results, Tryz.f22, go_sem, q0, q1]
          · rw [hrd]; exact ⟨_, rfl, IsN.zero _⟩
        · have hd1 : decide (((r : Nat) : Int) < 48) = false := decide_eq_false (by omega)
          have hd2 : decide ((57 : Int) < ((r : Nat) : Int)) = true := decide_eq_true (by omega)
          gi_wp2_with fail
          have hrd := rd_bad (x := (pos : Int)) hp HBAD.out hnew (by first | rfl | simp)
          have hZ3 := (hZ2.set_ 0 (.bool false)).set_ 1 (.slice none 0 0)
          have q0 := hZ3.cell 0
          have q1 := hZ3.cell 1
          have hB3 := bset (bset hbel2 (X := w.heap.size) (i := 0) (Nat.le_refl _) (.bool false)) (X := w.heap.size) (i := 1) (Nat.le_refl _) (.slice none 0 0)
          refine ⟨.tuple #[.agg #[.bool false, .slice none 0 0], .int .i64 (pos : Int), .int .i64 3], ?_, ⟨.agg #[.bool false, .slice none 0 0], by rw [hrd], ?_, hB3⟩⟩
          · simp at q0 q1
            simp [results, Tryz.f22, go_sem, q0, q1]
          · rw [hrd]; exact ⟨_, rfl, IsN.zero _⟩
    · have hpe : pos = D.length := by omega
      have hnx : ∀ ty, (Instr.next (.pointer (some ⟨w.heap.size + 1, 0, none⟩)) true ty).run Tryz.prog wr = _ := fun ty => Lib.run_next_end_at wr (w.heap.size + 1) s pos ty hit (by omega)
      clear hp0
      by_cases h0 : D.length = 0
      · have hp00 : pos = 0 := by omega
        subst hp00
        have hrd := rd_nil (neg := false) h0
        have HRD := Lib.hid hrd
        have hf2 := hZ.frozen
        have k0 := hZ.cell 0
        have k1 := hZ.cell 1
        have H0 := Lib.hid h0
        clear h0 hpe hrd hpos hp hss hD4 hsz hl
        gi_wp2_with fail
        have hZ3 := (hZ.set_ 0 (.bool false)).set_ 1 (.slice none 0 0)
        have q0 := hZ3.cell 0
        have q1 := hZ3.cell 1
        have hB3 := bset (bset hBel (X := w.heap.size) (i := 0) (Nat.le_refl _) (.bool false)) (X := w.heap.size) (i := 1) (Nat.le_refl _) (.slice none 0 0)
        refine ⟨.tuple #[.agg #[.bool false, .slice none 0 0], .int .i64 l.length, .int .i64 3], ?_, ⟨.agg #[.bool false, .slice none 0 0], ?_, ?_, hB3⟩⟩
        · simp at q0 q1
          simp [results, Tryz.f22, go_sem, q0, q1]
        · rw [HRD.out, show ((l.length : Nat) : Int) = 0 by have := HDL.out; have := H1L.out; have := H0.out; omega]; rfl
        · rw [HRD.out]; exact ⟨_, rfl, IsN.zero _⟩
      · have hd5 : ((((0 + pos : Nat) : Int)) == 0) = false := by rw [beq_eq_false_iff_ne]; omega
        have hall : ∀ i, i < D.length → badAt false D i = false := by rw [← hpe]; exact hbad
        have hrd := rd_good hall h0
        have hfg := (good_figs (by rw [badN_all hall]; exact Nat.lt_irrefl _)).1
        have HRD := Lib.hid hrd
        have HFG := Lib.hid hfg
        have hcut := HCUT.out
        have h1l := H1L.out
        have hcv := fun W : World => Lib.run_convert_string_bytes (P := Tryz.prog) W 9 57 5 s Tryz.underlying9 Tryz.underlying57 Tryz.underlying5
        have hst := HS.out
        have hY0 : IsY (Lib.bytesWorld (wr.alloc (.cells #[.slice none 0 0] 23)) 5 s) (.slice (some ⟨wr.heap.size + 1, 0, none⟩) (nums D).length (grownCap (wr.alloc (.cells #[.slice none 0 0] 23)) D.length 0 5)) (nums D) := by
          have := bytes_isY (wr.alloc (.cells #[.slice none 0 0] 23)) D 5 hD4
          rw [World.size_alloc] at this
          rw [hst]; exact this
        have hbn := Lib.bytesWorld_at_new (wr.alloc (.cells #[.slice none 0 0] 23)) 5 s
        rw [World.size_alloc] at hbn
        have hb0 := Go.Joins.below_bytesWorld _ (wr.alloc (.cells #[.slice none 0 0] 23)) 5 s (Nat.le_refl _)
        have hbz := Lib.bytesWorld_size (wr.alloc (.cells #[.slice none 0 0] 23)) 5 s
        rw [World.size_alloc] at hbz
        have HB := Lib.hid (And.intro hY0 (And.intro hbn (And.intro hb0 hbz)))
        clear h0 hpe hrd hpos hp hbad hall hfg hY0 hbn hb0 hbz hst
        gi_wp2_with fail
        refine ⟨trivial, ?_⟩
        obtain ⟨WB, hWB⟩ : ∃ WB, WB = Lib.bytesWorld (wr.alloc (.cells #[.slice none 0 0] 23)) 5 s := ⟨_, rfl⟩
        obtain ⟨c, hc⟩ : ∃ c, c = grownCap (wr.alloc (.cells #[.slice none 0 0] 23)) D.length 0 5 := ⟨_, rfl⟩
        obtain ⟨hY0, hbn, hb0, hbz⟩ := HB.out
        clear HB hcv
        rw [← hWB] at hY0 hbn hb0 hbz ⊢
        rw [← hc] at hY0 ⊢
        have hN0 : Blk WB wr.heap.size 23 #[.slice none 0 0] := (Blk.new wr 23 #[.slice none 0 0]).below hb0 (by rw [World.size_alloc]; exact Nat.lt_succ_self _)
        have hZ1 : Blk WB w.heap.size 25 #[.bool false, .slice none 0 0] := (hZ.alloc _).below hb0 (by rw [World.size_alloc]; omega)
        have hB1 : Below w.heap.size w WB := (hBel.alloc hBel.size (.cells #[.slice none 0 0] 23)).trans (hb0.mono (by rw [World.size_alloc]; have := hBel.size; omega))
        have hX : w.heap.size < wr.heap.size := hZ.lt
        clear hWB hc hb0 hZ hBel hit hnx hcut h1l hd5
        refine (chunkY_in 8 _ _ _ 18 (by decide) _).mono ?_
        rintro e w' ⟨rfl, rfl⟩
        gi_wp2_with fail
        have hL0 : Lies WB (wr.heap.size + 1) _ := ⟨hbn, rfl⟩
        have hL3 := (hL0.alloc (.cells #[.slice (some ⟨wr.heap.size + 1, 0, none⟩) D.length c] 57)).alloc (.cells #[.int .i64 18] 3)
        have hY3 := hY0.lies hL0 hL3
        have hN3 := (hN0.alloc (.cells #[.slice (some ⟨wr.heap.size + 1, 0, none⟩) D.length c] 57)).alloc (.cells #[.int .i64 18] 3)
        have hZ3 := (hZ1.alloc (.cells #[.slice (some ⟨wr.heap.size + 1, 0, none⟩) D.length c] 57)).alloc (.cells #[.int .i64 18] 3)
        have hC3 := (Blk.new WB 57 #[.slice (some ⟨wr.heap.size + 1, 0, none⟩) D.length c]).alloc (.cells #[.int .i64 18] 3)
        have hD3 := Blk.new (WB.alloc (.cells #[.slice (some ⟨wr.heap.size + 1, 0, none⟩) D.length c] 57)) 3 #[.int .i64 18]
        have hB3 := (hB1.alloc hB1.size (.cells #[.slice (some ⟨wr.heap.size + 1, 0, none⟩) D.length c] 57)).alloc (by have := hB1.size; simp; omega) (.cells #[.int .i64 18] 3)
        obtain ⟨W1, hW1⟩ : ∃ W1, W1 = (WB.alloc (.cells #[.slice (some ⟨wr.heap.size + 1, 0, none⟩) D.length c] 57)).alloc (.cells #[.int .i64 18] 3) := ⟨_, rfl⟩
        have hsz1 : W1.heap.size = wr.heap.size + 4 := by rw [hW1]; simp; omega
        rw [← hW1] at hL3 hY3 hN3 hZ3 hC3 hD3 hB3 ⊢
        rw [World.size_alloc] at hD3
        clear hW1 hL0 hY0 hN0 hZ1 hB1 hbn
        generalize Obj.cells _ _ _ = ob at hL3
        generalize wr.heap.size = X at *
        generalize WB.heap.size = Y at *
        obtain rfl : Y = X + 1 + 1 := by omega
        clear hbz
        have hcc := hC3.cell 0
        have hcd := hD3.cell 0
        rw [← nums_len D] at hcc
        have hst := chunkY_stops (X + 1 + 1) w.heap.size c 18 (by decide) (by decide) (some ⟨X + 1, 0, none⟩) (nums D) (by rw [nums_len]; omega) W1 hY3 W1 (by omega) hcc hcd
        refine wpIn_rangeFunc_ownG (n := 9) rfl (by omega) (gf := 65) (lb := #[.pointer (some ⟨X + 1 + 1, 0, none⟩), .pointer (some ⟨X + 1 + 1 + 1, 0, none⟩)]) rfl trivial (enters_of Tryz.func65 (by kernel_rfl) rfl)
          hst KR.trans (KR.put (by omega) (by omega)) (Below.refl _ _) (fun _ => rfl)
          (fun pre W => ReadI D w.heap.size X ob (pre.map (·.1)) W ∧ (Below w.heap.size w W ∧ W1.heap.size ≤ W.heap.size))
          (fun _ _ _ => False)
          ?oI ?oX ?st ?a1 ?assign ?body ?done ?stop
        case assign =>
          intro lr x W K hK
          gi_wp2
          exact hK
        case oI => exact OwnFrom.and (Own.from (show Own (fun (q : List (PrtY 18 (nums D))) (W : World) => ReadI D w.heap.size X ob (q.map (·.1)) W) from fun q X Y row hs hg hr => ReadI.own hs hg hr) _) (OwnFrom.and (ownFrom_below (by omega) (by omega)) (Own.from (show Own (fun (_ : List (PrtY 18 (nums D))) (W : World) => W1.heap.size ≤ W.heap.size) from fun q X Y row hs hg hr => Nat.le_trans hs hg.size) _))
        case oX => exact fun _ _ _ _ _ hs _ _ => hs
        case st => exact ⟨⟨⟨_, hN3, IsN.zero _⟩, hZ3, hL3⟩, hB3, Nat.le_refl _⟩
        case body =>
          rintro lr pre x W ⟨⟨⟨nv, hN, hV⟩, hZ, hL⟩, hBel, hWs⟩ hlt
          have hY := hY3.lies hL3 hL
          have hp := hY.part x.2
          obtain ⟨ps, hps⟩ : ∃ y, y = pre.map (fun y : PrtY 18 (nums D) => y.1) := ⟨_, rfl⟩
          have hnew : (pre ++ [x]).map (fun y : PrtY 18 (nums D) => y.1) = ps ++ [x.1] := by rw [List.map_append, ← hps]; rfl
          have hplen : ps.length ≤ 400 := by have := cutN_le (z := 18) (n := (nums D).length) (by decide); rw [hps, List.length_map]; rw [nums_len] at *; omega
          rw [← hps] at hV
          obtain ⟨p, hpe⟩ : ∃ p, p = partT 18 D x.1 := ⟨_, rfl⟩
          have hpart : partY 18 (nums D) x.1 = nums p := by rw [hpe]; exact nums_part 18 D x.1
          rw [hpart] at hp
          obtain ⟨pv, hpv⟩ : ∃ pv, pv = partVY (some ⟨X + 1, 0, none⟩) 18 (nums D).length x.1 := ⟨_, rfl⟩
          rw [← hpv] at hp
          try dsimp only
          rw [← hpv]
          have hx2 : x.1 * 18 < D.length := by have h := x.2; have e := nums_len D; omega
          have hp18 : p.length ≤ 18 := by rw [hpe]; exact part18 D x.1
          have hp0 : p ≠ [] := by intro e; have := part_len 18 D x.1; rw [← hpe, e, List.length_nil] at this; omega
          have hpf : ∀ c ∈ p, figB c = true := by rw [hpe]; exact part_figs HFG.out
          have hacc : accT D (ps ++ [x.1]) = accT D ps * 10 ^ p.length + valT p := by rw [accT_snoc, hpe]
          have hlim : (limbs (accT D ps)).length ≤ 400 := Nat.le_trans (limbs_len_le (accT_lt HFG.out ps)) hplen
          have hten : 10 ^ p.length < W64 := Nat.lt_of_le_of_lt (Nat.pow_le_pow_right (by decide) hp18) (by decide)
          have hval : valT p < W64 := Nat.lt_trans (valT_lt p hpf) hten
          have hnew' := And.intro hnew hacc
          have HNA := Lib.hid hnew'
          clear hnew hacc hnew' hpe hpart hlt hx2 hps
          generalize accT D ps = a at *
          have hcs := conv_str hp hp0
          have hPa := parse_low p hp18 hp0 hpf
          obtain ⟨Ap, Cp, hpv2, _⟩ := id hp
          rw [nums_len] at hpv2
          subst hpv2
          clear hpv hp hY hpf hp0
          obtain ⟨A0, L0, C0, rfl⟩ := hV.frm
          have hmx : Tryz.prog.follows .mixedOrders = true := by kernel_rfl
          gi_wp2_with fail
          refine ⟨trivial, ?_⟩
          refine (CallsIn.inRound lr (callsIn_wide.2 (hPa _))).mono ?_
          rintro e w2 ⟨rfl, b2⟩
          have hV2 := hV.below b2
          have hN2 : Blk w2 X 23 #[.slice A0 L0 C0] := hN.below b2 hN.lt
          clear hcs hPa
          have hW64 : W64 = 18446744073709551616 := rfl
          gi_wp2_with fail
          gi_loopw [15, 86] (fun t k wr => ∃ j : Nat, j ≤ p.length ∧ t = .int .u64 ((10 ^ j : Nat) : Int) ∧ k = .int .i64 j ∧ wr = w2) (fun _ k _ => 19 - (RowKit.intOf k).toNat)
          case atStart => exact ⟨0, Nat.zero_le _, rfl, rfl, rfl⟩
          case round =>
            obtain ⟨j, hj, rfl, rfl, rfl⟩ := hrel
            by_cases hjl : j < p.length
            · have hd7 : decide ((j : Int) < (p.length : Int)) = true := decide_eq_true (by omega)
              have hT18 : 10 ^ (j + 1) < W64 := Nat.lt_of_le_of_lt (Nat.pow_le_pow_right (by decide) hjl) hten
              obtain ⟨T, hT⟩ : ∃ T, T = 10 ^ j := ⟨_, rfl⟩
              rw [Nat.pow_succ, ← hT] at hT18
              have hw3 : IntKind.u64.wrap ((T : Int) * 10) = ((T * 10 : Nat) : Int) := by rw [IntKind.wrap_u64]; omega
              have hT2 : T * 10 = 10 ^ (j + 1) := by rw [Nat.pow_succ, hT]
              have HT := Lib.hid hT2
              rw [← hT]
              clear hT hT2
              gi_wp2_with fail
              refine ⟨⟨j + 1, by omega, congrArg (Value.int .u64) (by rw [← HT.out]; omega), congrArg (Value.int .i64) (by omega), by simp⟩, by simp [RowKit.intOf]; omega⟩
            · obtain rfl : j = p.length := by omega
              have hd7 : decide ((p.length : Int) < (p.length : Int)) = false := decide_eq_false (by omega)
              obtain ⟨T, hT⟩ : ∃ T, T = 10 ^ p.length := ⟨_, rfl⟩
              rw [← hT] at hten
              have HT := Lib.hid hT
              rw [← hT]
              clear hT
              obtain ⟨V, hVV⟩ : ∃ V, V = valT p := ⟨_, rfl⟩
              rw [← hVV] at hval
              have HV := Lib.hid hVV
              rw [← hVV]
              clear hVV
              gi_wp2_with fail
              have hOt := fun w => of_any T hten w
              have hOv := fun w => of_any V hval w
              refine wpInR_region_held (S := fun _ => True) hmx (by kernel_rfl) trivial (fun hHeld => ?_)
              have dd : Below W.heap.size W wr.drew := b2.drew
              have hVd : IsN wr.drew (.slice A0 L0 C0) a := hV2.below (Below.refl _ _).drew
              generalize wr.drew = wd at *
              have md : Blk wd X 23 #[.slice A0 L0 C0] := hN.below dd hN.lt
              refine wpAnyH_take (i := 1) (v := ?s_v1) rfl (by kernel_rfl) (by kernel_rfl) (by kernel_rfl) (fun _ _ _ h => h) (Or.inl ⟨by kernel_rfl, ?s_hy1⟩) (by assumption) ?s_rest1
              case s_hy1 => (intro w hSw; (try dsimp only at hSw); go_simp; try (with_reducible rfl))
              try simp only [Act.put, lay1, lay2, lay3, lay4, lay5, lay6]
              refine wpAnyH_take (i := 4) (v := ?s_v4) rfl (by kernel_rfl) (by kernel_rfl) (by kernel_rfl) (fun _ _ _ h => h) (Or.inl ⟨by kernel_rfl, ?s_hy4⟩) (by assumption) ?s_rest4
              case s_hy4 => (intro w hSw; (try dsimp only at hSw); go_simp; try (with_reducible rfl))
              try simp only [Act.put, lay1, lay2, lay3, lay4, lay5, lay6]
              refine wpAnyH_ready (rs := [0, 2]) (by kernel_rfl) (by simp) ?_
              refine AllReadyH.cons rfl ?ra (AllReadyH.cons rfl ?rb AllReadyH.nil)
              case' ra =>
                intro K hK
                have x0 := md.cell 0
                go_simp
                refine hK.out _ _ trivial (fun hHeld => ?_)
                clear x0
                clear hK K
                try simp only [Act.put, lay1, lay2, lay3, lay4, lay5, lay6]
                refine wpAnyH_ready (rs := [2]) (by kernel_rfl) (by simp) ?_
                refine AllReadyH.cons rfl (fun K hK => ?_) AllReadyH.nil
                go_simp
                refine (hOt _).mono ?_
                rintro e w3 ⟨v3, rfl, h3, b3⟩
                have d3 : Below W.heap.size W w3 := bstep dd b3
                have m3 : Blk w3 X 23 #[.slice A0 L0 C0] := hN.below d3 hN.lt
                go_wp2_with fail
                refine hK.out _ _ trivial (fun hHeld => ?_)
                clear hK K
                try simp only [Act.put, lay1, lay2, lay3, lay4, lay5, lay6]
              case' rb =>
                intro K hK
                go_simp
                refine (hOt _).mono ?_
                rintro e w3 ⟨v3, rfl, h3, b3⟩
                have d3 : Below W.heap.size W w3 := bstep dd b3
                have m3 : Blk w3 X 23 #[.slice A0 L0 C0] := hN.below d3 hN.lt
                go_wp2_with fail
                refine hK.out _ _ trivial (fun hHeld => ?_)
                clear hK K
                try simp only [Act.put, lay1, lay2, lay3, lay4, lay5, lay6]
                refine wpAnyH_ready (rs := [0]) (by kernel_rfl) (by simp) ?_
                refine AllReadyH.cons rfl (fun K hK => ?_) AllReadyH.nil
                have x0 := m3.cell 0
                go_simp
                refine hK.out _ _ trivial (fun hHeld => ?_)
                clear x0
                clear hK K
                try simp only [Act.put, lay1, lay2, lay3, lay4, lay5, lay6]
              all_goals (
                refine wpAnyH_ready (rs := [3]) (by kernel_rfl) (by simp) ?_
                refine AllReadyH.cons rfl (fun K hK => ?_) AllReadyH.nil
                go_simp
                refine (mul_any _ _ _ _ _ (hVd.below b3) h3 (Nat.le_trans hlim (by decide)) (Nat.le_trans (limbs_len_le (k := 1) (by rw [Nat.pow_one]; exact hten)) (by decide))).mono ?_
                rintro e w4 ⟨v4, rfl, h4, b4⟩
                have d4 : Below W.heap.size W w4 := bstep d3 b4
                have m4 : Blk w4 X 23 #[.slice A0 L0 C0] := hN.below d4 hN.lt
                go_wp2_with fail
                refine hK.out _ _ trivial (fun hHeld => ?_)
                clear hK K
                try simp only [Act.put, lay1, lay2, lay3, lay4, lay5, lay6]
                refine wpAnyH_ready (rs := [5]) (by kernel_rfl) (by simp) ?_
                refine AllReadyH.cons rfl (fun K hK => ?_) AllReadyH.nil
                go_simp
                refine (hOv _).mono ?_
                rintro e w5 ⟨v5, rfl, h5, b5⟩
                have d5 : Below W.heap.size W w5 := bstep d4 b5
                have m5 : Blk w5 X 23 #[.slice A0 L0 C0] := hN.below d5 hN.lt
                go_wp2_with fail
                refine hK.out _ _ trivial (fun hHeld => ?_)
                clear hK K
                try simp only [Act.put, lay1, lay2, lay3, lay4, lay5, lay6]
                refine wpAnyH_ready (rs := [6]) (by kernel_rfl) (by simp) ?_
                refine AllReadyH.cons rfl (fun K hK => ?_) AllReadyH.nil
                go_simp
                refine (add_any _ _ _ _ _ (h4.below b5) h5 (Nat.le_trans (limbs_len_mul _ _) (by have := limbs_len_le (k := 1) (n := T) (by rw [Nat.pow_one]; exact hten); omega)) (Nat.le_trans (limbs_len_le (k := 1) (by rw [Nat.pow_one]; exact hval)) (by decide))).mono ?_
                rintro e w6 ⟨v6, rfl, h6, b6⟩
                obtain ⟨A6, L6, C6, rfl⟩ := h6.frm
                have d6 : Below W.heap.size W w6 := bstep d5 b6
                have m6 : Blk w6 X 23 #[.slice A0 L0 C0] := hN.below d6 hN.lt
                go_wp2_with fail
                refine hK.out _ _ trivial (fun hHeld => ?_)
                clear hK K
                try simp only [Act.put, lay1, lay2, lay3, lay4, lay5, lay6]
                refine wpAnyH_ready (rs := [7]) (by kernel_rfl) (by simp) ?_
                refine AllReadyH.cons rfl (fun K hK => ?_) AllReadyH.nil
                have c6 := m6.cell 0
                have f6 := m6.frozen 0
                go_simp
                refine hK.out _ _ trivial (fun hHeld => ?_)
                clear hK K c6 f6
                refine wpAnyH_done (by kernel_rfl) ?_ _
                dsimp only [OnlyN]
                gi_wp2
                have hKO : KeepsOthers W w6 := ⟨d6.size, fun k o hk ho => (d6.block k (Array.getElem?_eq_some_iff.1 hk).1).trans hk⟩
                have hwW := hBel.size
                refine ⟨?_, ?_, ?_⟩
                · exact (hKO.trans (KeepsOthers.setCell _ _ _)).from _
                · exact (KR.of_below d6 (by omega) (by omega)).set (by omega) (.inl (by omega)) _
                · refine ⟨⟨⟨_, m6.set_ 0 (.slice A6 L6 C6), ?_⟩, (hZ.below d6 hZ.lt).far (p := ⟨X, 0, none⟩) (by show w.heap.size ≠ X; omega) _, (hL.below d6 (by have := (Array.getElem?_eq_some_iff.1 hL.1).1; exact this)).far (p := ⟨X, 0, none⟩) (by show X + 1 ≠ X; omega) _⟩, ?_, ?_⟩
                  · rw [HNA.out.1, HNA.out.2, ← HT.out, ← HV.out]
                    exact IsN.keepBlk h6 m6 (by simp [noU]) (fun k hk => Below.heap_setCell _ ⟨X, 0, none⟩ _ k hk) (by simp)
                  · exact (hBel.trans (d6.mono hwW)).setCell (p := ⟨X, 0, none⟩) (by show w.heap.size ≤ X; omega) _
                  · simp [World.setCell]; exact Nat.le_trans hWs d6.size)
        case done =>
          rintro D' ys W hD' hys ⟨⟨⟨nv, hN, hV⟩, hZ, hL⟩, hBel, hWs⟩ hKD
          rw [hys, nums_len, accT_all] at hV
          obtain ⟨A0, L0, C0, rfl⟩ := hV.frm
          have hMd := fun w h => (callsIn_wide (n := 8)).2 (pzmade_any false (.slice A0 L0 C0) (valT D) w h)
          have n0 := hN.cell 0
          have HKD := Lib.hid hKD
          clear hKD hys
          obtain ⟨V, hVV⟩ : ∃ V, V = valT D := ⟨_, rfl⟩
          rw [← hVV] at hV hMd HRD
          clear hVV
          gi_wp2_with fail
          refine ⟨trivial, ?_⟩
          refine (hMd _ hV).mono ?_
          rintro e w2 ⟨v2, rfl, ⟨nv2, rfl, h2⟩, b2⟩
          obtain ⟨A2, L2, C2, rfl⟩ := h2.frm
          have hZ2 := hZ.below b2 hZ.lt
          have hK2 : w2.heap[D']? = some (.deferred (some [])) := (b2.block D' (Array.getElem?_eq_some_iff.1 HKD.out).1).trans HKD.out
          have HK2 := Lib.hid hK2
          clear hK2 hMd
          obtain ⟨bz, hbz⟩ : ∃ bz, bz = decide (sided false V < 0) := ⟨_, rfl⟩
          rw [← hbz]
          have HBZ := Lib.hid hbz
          clear hbz
          have k0 := hZ2.cell 0
          have k1 := hZ2.cell 1
          have kf := hZ2.frozen
          gi_wp2_with fail
          have hZ8 := (hZ2.set_ 0 (.bool bz)).set_ 1 (.slice A2 L2 C2)
          have hB2 := hBel.trans (b2.mono hBel.size)
          have hB8 := bset (bset hB2 (X := w.heap.size) (i := 0) (Nat.le_refl _) (.bool bz)) (X := w.heap.size) (i := 1) (Nat.le_refl _) (.slice A2 L2 C2)
          have h3 := IsN.keepBlk (w' := w2.setCell ⟨w.heap.size, 0, none⟩ (.bool bz)) h2 hZ2 (by simp [noU]) (fun k hk => Below.heap_setCell _ ⟨w.heap.size, 0, none⟩ _ k hk) (by simp)
          have h4 := IsN.keepBlk (w' := (w2.setCell ⟨w.heap.size, 0, none⟩ (.bool bz)).setCell ⟨w.heap.size, 1, none⟩ (.slice A2 L2 C2)) h3 (show Blk _ _ _ #[.bool bz, .slice none 0 0] from hZ2.set_ 0 (.bool bz)) (by simp [noU]) (fun k hk => Below.heap_setCell _ ⟨w.heap.size, 1, none⟩ _ k hk) (by simp)
          have hK' := ((KeepsOthers.setCell w2 ⟨w.heap.size, 0, none⟩ (.bool bz)).trans (KeepsOthers.setCell _ ⟨w.heap.size, 1, none⟩ (.slice A2 L2 C2))).same D' _ HK2.out rfl
          refine ⟨by simp, .inl ⟨_, _, rfl, run_takeDeferred hK', ?_⟩⟩
          have hZ9 := blkR_own hZ8 (grownBy_putObj' _ D' (.deferred none)) (fun r e => by cases e; exact ⟨_, hK', rfl⟩)
          have q0 := hZ9.cell 0
          have q1 := hZ9.cell 1
          refine ⟨.tuple #[.agg #[.bool bz, .slice A2 L2 C2], .int .i64 0, .int .i64 0], ?_, ⟨_, by rw [HRD.out], ?_, hB8.trans (belowK_b (w := w) (Nat.le_refl _) _ D' _ (.deferred none) (by omega) hK' rfl rfl)⟩⟩
          · simp at q0 q1
            simp [results, Tryz.f22, go_sem, q0, q1]
          · rw [HRD.out]
            exact ⟨_, by rw [HBZ.out]; rfl, IsL.putObj h4 hK' rfl⟩
        case stop =>
          rintro D' c' pre W _ _ h _
          exact h.elim
end Go.Proofs.YtooonjcpdbbniaaGreatDoor
