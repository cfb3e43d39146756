/- A part of the proof of: IN: of intervals in others all updates are in theirs. No conditions: every input. -/
import Derived.Deep.RegionHeld3
import Derived.OrdersHeld
import Derived.Below
import Derived.Test.YtdnjdglekifhpaaGreatChecked
import Derived.WalkKit
import Derived.Laws.OwnMore
import Derived.Deep.AppendLies
import Derived.Deep.Draws
import Derived.Lib.Hide
import Derived.Deep.QuietTactic
import Derived.Tactics
import Derived.BigQuiet
import Derived.Laws.Rows
import Derived.Laws.AppendOwn
import Derived.Maps.AppendAt
import Derived.RegionTactic
import Derived.OwnWalk
import Derived.Outline
import Derived.LoopTactic
import Derived.StillTailTactics
import Derived.Laws.MakeOwn
import Derived.ChangeKeysEq
import Derived.Laws.StructEq
import Derived.Deep.RegionLaw
import Derived.Deep.DeepMust
import Derived.Laws.Externs
import Derived.Shelf.Bits.Mul64
import Derived.Shelf.Strconv.Itoa0
import Derived.Deep.DrawnRows
import Derived.Deep.DeepCutAuto
import Derived.Test.YtdnjdglekifhpaaGreatRows
import Derived.ChangeSame
import Derived.ProofKit
import Derived.SizedLaws
import Derived.Carry
import Derived.OpenShut
import Derived.Deep.Slices
import Derived.Deep.LoopGhost
import Derived.Laws.Shifts
import Derived.Laws.BitsAllLaws
import Derived.Laws.BitsLemmas
import Derived.Deep.CutBlock
import Derived.WalkMore
import Derived.RangeFuncWrites
import Derived.Lib.SliceRun
import Derived.RangeFuncNested
import Derived.RangeFuncBound
import Derived.RangeFuncCalls
import Derived.RangeFuncLeaves
import Derived.Shelf.Abstract
import Derived.Shelf.RegionOpen
import Derived.OwnWalkIn
import Derived.TacticsInMore
import Derived.LoopNIn
import Derived.LoopIn
import Derived.RangeFuncBox
import Derived.RangeFuncFrom
import Derived.StillTail
import Derived.StillTactics
import Derived.OrdersIn
import Derived.TacticsIn
import Derived.CallsIn
import Derived.Laws.EntriesVeiled
import Derived.Deep.RegionHeld
import Derived.Shelf.SortG.Plain
import Derived.Laws.BytesArg
import Derived.Lib.Bytes
import Derived.Handy
import Derived.Lib.SmallJoins
import Derived.Deep.RegionWith
import Derived.Test.YtdnjdglekifhpaaGreatTxg
namespace Go.Proofs.YtdnjdglekifhpaaGreat
theorem rd1 {P : Program} {ops : Array Oper} {Q : Exit → Act → World → Prop} {md : Region.Mode} {S : World → Prop} {fuel : Nat} {listed : Array Bool} {a : Act} {w : World} (i : Nat) {o : Oper} (ho : ops[i]? = some o)
   (h : ∀ K' : Act → World → Prop, Shut (∀ a w, S w → (S w → wpAnyH P md ops Q S fuel (listed.setIfInBounds i true) a w) → K' a w) → if Region.wanted o (yielded ops a.tmps) = true then Oper.wp P o a w K' Q else K' (a.put o.dst undef) w)
   (hr : Region.ready md ops listed = [i] := by kernel_rfl) : wpAnyH P md ops Q S (fuel + 1) listed a w := wpAnyH_ready hr (by simp) (AllReadyH.cons ho h AllReadyH.nil)
theorem rd2 {P : Program} {ops : Array Oper} {Q : Exit → Act → World → Prop} {md : Region.Mode} {S : World → Prop} {fuel : Nat} {listed : Array Bool} {a : Act} {w : World} (i j : Nat) {o o' : Oper} (ho : ops[i]? = some o) (ho' : ops[j]? = some o')
   (h : ∀ K' : Act → World → Prop, Shut (∀ a w, S w → (S w → wpAnyH P md ops Q S fuel (listed.setIfInBounds i true) a w) → K' a w) → if Region.wanted o (yielded ops a.tmps) = true then Oper.wp P o a w K' Q else K' (a.put o.dst undef) w)
   (h' : ∀ K' : Act → World → Prop, Shut (∀ a w, S w → (S w → wpAnyH P md ops Q S fuel (listed.setIfInBounds j true) a w) → K' a w) → if Region.wanted o' (yielded ops a.tmps) = true then Oper.wp P o' a w K' Q else K' (a.put o'.dst undef) w)
   (hr : Region.ready md ops listed = [i, j] := by kernel_rfl) : wpAnyH P md ops Q S (fuel + 1) listed a w := wpAnyH_ready hr (by simp) (AllReadyH.cons ho h (AllReadyH.cons ho' h' AllReadyH.nil))
theorem tkS {P : Program} {ops : Array Oper} {Q : Exit → Act → World → Prop} {md : Region.Mode} {S : World → Prop} (i : Nat) {oi : Oper} (hi : ops[i]? = some oi) {fuel : Nat} {listed : Array Bool} {a : Act} {w : World}
   (h : wpAnyH P md ops Q S fuel (listed.setIfInBounds i true) (a.put oi.dst undef) w)
   (hs : Region.noSelect ops = true := by kernel_rfl) (hf : Region.free md ops listed i = true := by kernel_rfl) (hr : (Region.ready md ops listed).contains i = true := by kernel_rfl)
   (hQ : ∀ c a w, Q (.panic c) (a.put oi.dst undef) w → Q (.panic c) a w := by exact fun _ _ _ h => h) (hw : Region.wanted oi (yielded ops a.tmps) = false := by kernel_rfl) (hS : S w := by assumption) : wpAnyH P md ops Q S (fuel + 1) listed a w :=
 wpAnyH_take hi hs hf hr hQ (.inr ⟨hw, rfl⟩) hS h
theorem nuh_split (l : List Nat) (k : Nat) (h : k ≤ l.length) : nuh l = nuh (l.take k) + H32 ^ k * nuh (l.drop k) := by
 have := nuh_append (l.take k) (l.drop k)
 rw [List.take_append_drop, List.length_take, Nat.min_eq_left h] at this
 exact this
theorem nuh_set (l : List Nat) (i v : Nat) (h : i < l.length) : nuh (l.set i v) + H32 ^ i * lat l i = nuh l + H32 ^ i * v := by
 have e1 := nuh_split l i (by omega)
 have e2 := nuh_split (l.set i v) i (by simp; omega)
 rw [drop_lat l i h, nuh] at e1
 rw [drop_lat (l.set i v) i (by simp; omega), nuh, lat_set, if_pos ⟨rfl, h⟩, List.take_set_of_le (Nat.le_refl _), List.drop_set_of_lt (by omega)] at e2
 rw [e1, e2]
 simp only [Nat.mul_add]
 omega
theorem nuh_zeros (n : Nat) : nuh (zeros n) = 0 := by
 unfold zeros
 induction n with
 | zero => rfl
 | succ n ih => rw [List.replicate_succ, nuh, ih]; simp
theorem hmul_digit {x y o c n : Nat} (hx : x < H32) (hy : y < H32) (ho : o < H32) (hc : c < H32) (e : n = o + x * y + c) : n < W64 ∧ n % H32 + H32 * (n / H32) = x * y + o + c ∧ n / H32 < H32 ∧ o + x * y < W64 := by
 have hp : x * y ≤ (H32 - 1) * (H32 - 1) := Nat.mul_le_mul (by omega) (by omega)
 have hp2 : (H32 - 1) * (H32 - 1) + 2 * (H32 - 1) + 1 = H32 * H32 := by unfold H32; rfl
 refine ⟨by rw [W64_H32]; omega, by rw [Nat.mod_add_div, e]; omega, ?_, by rw [W64_H32]; omega⟩
 rw [Nat.div_lt_iff_lt_mul H32_pos]; omega
theorem hmul_inner {l b : List Nat} {i k N x c o s2 r : Nat} (hl : i + k < l.length) (ho : o = lat l (i + k)) (hinv : nuh l + H32 ^ (i + k) * c = N + H32 ^ i * (x * nuh (b.take k))) (hd : s2 + H32 * r = x * lat b k + o + c) :
   nuh (l.set (i + k) s2) + H32 ^ (i + k + 1) * r = N + H32 ^ i * (x * nuh (b.take (k + 1))) := by
 have e1 := nuh_set l (i + k) s2 hl
 rw [← ho] at e1
 rw [nuh_take_succ, Nat.mul_add x, Nat.mul_add (H32 ^ i), ← Nat.add_assoc, ← hinv, Nat.pow_succ]
 have e2 := congrArg (H32 ^ (i + k) * ·) hd
 simp only [Nat.mul_add] at e2
 have e3 : H32 ^ i * (x * (H32 ^ k * lat b k)) = H32 ^ (i + k) * (x * lat b k) := by
   rw [Nat.pow_add, Nat.mul_left_comm x, Nat.mul_assoc]
 have e4 : H32 ^ (i + k) * H32 * r = H32 ^ (i + k) * (H32 * r) := by rw [Nat.mul_assoc]
 rw [e3, e4]
 omega
theorem hmul_outer {l a b : List Nat} {i c : Nat} (hl : i + b.length < l.length) (h0 : lat l (i + b.length) = 0) (hinv : nuh l + H32 ^ (i + b.length) * c = nuh (a.take i) * nuh b + H32 ^ i * (lat a i * nuh b)) :
   nuh (l.set (i + b.length) c) = nuh (a.take (i + 1)) * nuh b := by
 have e1 := nuh_set l (i + b.length) c hl
 rw [h0] at e1
 rw [nuh_take_succ, Nat.add_mul, Nat.mul_assoc, ← hinv]
 omega
open Go.RowKit
theorem nat_ne0 (x : Nat) : (((x : Nat) : Int) != 0) = !decide (x = 0) := by
 rcases Nat.eq_zero_or_pos x with h | h
 · subst h; rfl
 · rw [bne_iff_ne.2 (by omega), decide_eq_false (by omega)]; rfl
set_option maxHeartbeats 400000 in
theorem rright_any (v : Value) (l : List Nat) (w : World) (h : IsL w v l) :
   Calls Tryz.prog 115 #[v] w fun e w' => e = .returned (.bool (decide (l = [] ∨ lat l (l.length - 1) ≠ 0))) ∧ w = w' := by
 obtain ⟨A, c, rfl, hlc, hc, hbd, hr⟩ := h
 by_cases hl : l = []
 · subst hl
   go_enter Tryz.func115, Tryz.ntmps115
   go_wp2
   go_ret
   exact ⟨rfl, rfl⟩
 · have h0 : 0 < l.length := List.length_pos_iff.2 hl
   obtain ⟨ad, rfl, hb, hcell⟩ := us_cell hr (k := l.length - 1) (by omega)
   go_enter Tryz.func115, Tryz.ntmps115
   go_wp2
   go_ret
   have e : ((l.length : Int) == 0) = false := by simp [hl]
   exact ⟨ret_bool (by rw [e, nat_ne0]; simp [hl]), rfl⟩
end Go.Proofs.YtdnjdglekifhpaaGreat

namespace Go.Proofs.YtdnjdglekifhpaaGreat
open Go.RowKit
theorem whole_any (v : Value) (l : List Nat) (w : World) (h : IsL w v l) (hh : Bh l) (hl : l.length ≤ 5000000) :
   Calls Tryz.prog 140 #[v] w fun e w' => ∃ v', e = .returned v' ∧ IsN w' v' (nuh l) ∧ Below w.heap.size w w' :=
 (whole_f v l w h hh hl).mono fun _ _ ⟨v', h1, h2, h3, _⟩ => ⟨v', h1, h2, h3⟩
end Go.Proofs.YtdnjdglekifhpaaGreat
namespace Go.Proofs.YtdnjdglekifhpaaGreat
open Go.RowKit
set_option maxRecDepth 100000 in
set_option maxHeartbeats 2000000 in
theorem rmul_any (va vb : Value) (na nb : Nat) (w : World) (ha : IsN w va na) (hb : IsN w vb nb) (hla : (limbs na).length ≤ 1000000) (hlb : (limbs nb).length ≤ 1000000) :
   Calls Tryz.prog 73 #[va, vb] w fun e w' => ∃ v', e = .returned v' ∧ IsN w' v' (na * nb) ∧ Below w.heap.size w w' := by
 have eab : nuh (hv (limbs na)) * nuh (hv (limbs nb)) = na * nb := by rw [nuh_hv, nuh_hv, num_limbs, num_limbs]
 have HA := Lib.hid (halves2 va _ w ha hla)
 have HB := Lib.hid (fun W (h : Below w.heap.size w W) => halves2 vb _ W (hb.below h) hlb)
 have la := hv_len (limbs na)
 have lb := hv_len (limbs nb)
 rw [← eab]
 obtain ⟨a, hx⟩ : ∃ x, x = hv (limbs na) := ⟨_, rfl⟩
 obtain ⟨b, hy⟩ : ∃ y, y = hv (limbs nb) := ⟨_, rfl⟩
 rw [← hx] at HA la ⊢
 rw [← hy] at HB lb ⊢
 have lx : a.length ≤ 2000000 := by omega
 have ly : b.length ≤ 2000000 := by omega
 clear hx hy eab la lb ha hb
 have hmk := run_make_u64 27 Tryz.underlying27 (a.length + b.length + 1) ((a.length : Int) + (b.length : Int) + 1) (by omega) (by omega)
 go_enter Tryz.func73, Tryz.ntmps73
 go_wp2_with fail
 refine HA.out.mono ?_
 rintro e w1 ⟨A, ca, rfl, hca, hba, hra, hb1⟩
 go_wp2_with fail
 refine (HB.out _ hb1).mono ?_
 rintro e w2 ⟨B, cb, rfl, hcb, hbb, hrb, hb2⟩
 have hra := (hra.below hb2).more hb2.size
 have hbw := hb1.trans (hb2.mono hb1.size)
 clear hb1 hb2
 have a0 := Arr.new w2 (zeros (a.length + b.length + 1))
 have hB0 : Below w2.heap.size w2 (w2.alloc (.cells (us (zeros (a.length + b.length + 1))).toArray 141)) := (Below.refl _ w2).alloc (Nat.le_refl _) _
 go_wp2
 go_loopw [8] (fun i wr => ∃ (k : Nat) (l : List Nat), k ≤ a.length ∧ i = .int .i64 k ∧ Arr wr w2.heap.size l ∧ Hid (l.length = a.length + b.length + 1) ∧ Bh l ∧ Hid (nuh l = nuh (a.take k) * nuh b) ∧ Hid (∀ j, k + b.length ≤ j → lat l j = 0) ∧ Below w2.heap.size w2 wr) (fun i _ => a.length - (intOf i).toNat)
 case atStart => exact ⟨0, zeros (a.length + b.length + 1), Nat.zero_le _, rfl, a0, zeros_len _, Bh.zeros _, Lib.hid (by rw [nuh_zeros]; simp [nuh]), Lib.hid (fun j _ => lat_zeros _ _), hB0⟩
 case round =>
   obtain ⟨k, l, hk, rfl, hA, hlen, hbl, hnum, hz, hB⟩ := hrel
   by_cases hlt : k < a.length
   · obtain ⟨ad, rfl, _, hxc⟩ := us_cell (hra.below hB) hlt
     have hx64 := hba.lat k
     have hxi := hbound hba k
     obtain ⟨x, hx⟩ : ∃ x, x = lat a k := ⟨_, rfl⟩
     rw [← hx] at hxc hx64 hxi
     have Hx := Lib.hid hx
     clear hx
     go_wp2
     go_loopw [9, 10] (fun cy i wi => ∃ (m c : Nat) (l' : List Nat), m ≤ b.length ∧ cy = .int .u64 c ∧ i = .int .i64 m ∧ c < H32 ∧ Arr wi w2.heap.size l' ∧ Hid (l'.length = a.length + b.length + 1) ∧ Bh l' ∧ Hid (nuh l' + H32 ^ (k + m) * c = nuh (a.take k) * nuh b + H32 ^ k * (x * nuh (b.take m))) ∧ Hid (∀ j, k + b.length ≤ j → lat l' j = 0) ∧ Below w2.heap.size w2 wi) (fun _ i _ => b.length - (intOf i).toNat)
     case atStart => exact ⟨0, 0, l, Nat.zero_le _, rfl, rfl, H32_pos, hA, hlen, hbl, Lib.hid (by rw [hnum.out]; simp [nuh]), hz, hB⟩
     case round =>
       obtain ⟨m, c, l', hm, rfl, rfl, hc64, hA', hlen', hbl', hinv, hz', hB'⟩ := hrel
       by_cases hmt : m < b.length
       · obtain ⟨bd, rfl, _, hyc⟩ := us_cell (hrb.below hB') hmt
         obtain ⟨_, e, _, hxc'⟩ := us_cell (hra.below hB') hlt
         obtain rfl := Option.some.inj e
         have hy64 := hbb.lat m
         obtain ⟨y, hy⟩ : ∃ y, y = lat b m := ⟨_, rfl⟩
         rw [← hy] at hyc hy64
         rw [← Hx.out] at hxc'
         have hoc := hA'.cell (i := k + m) (by rw [hlen'.out]; omega)
         have hof := hA'.frozen (k + m)
         have ho64 := hbl'.lat (k + m)
         obtain ⟨o, ho⟩ : ∃ o, o = lat l' (k + m) := ⟨_, rfl⟩
         rw [← ho] at hoc ho64
         obtain ⟨p, ep⟩ : ∃ p, p = x * y := ⟨_, rfl⟩
         obtain ⟨q, eq⟩ : ∃ q, q = o + p := ⟨_, rfl⟩
         obtain ⟨n, en⟩ : ∃ n, n = q + c := ⟨_, rfl⟩
         obtain ⟨d1, d2, d3, d4⟩ := hmul_digit hx64 hy64 ho64 hc64 (n := n) (by rw [en, eq, ep])
         rw [← ep] at d4
         have w0 : IntKind.u64.wrap ((x : Int) * (y : Int)) = (p : Int) := by
           rw [IntKind.wrap_u64, ← Int.natCast_mul, ← ep]; unfold W64 at d4; omega
         have w1 : IntKind.u64.wrap ((o : Int) + (p : Int)) = (q : Int) := by
           rw [IntKind.wrap_u64, eq]; unfold W64 at d4; omega
         have w2' : IntKind.u64.wrap ((q : Int) + (c : Int)) = (n : Int) := by
           rw [IntKind.wrap_u64, en]; unfold W64 at d1; omega
         have fin := Lib.hid (hmul_inner (i := k) (by rw [hlen'.out]; omega) ho hinv.out (by rw [← hy]; exact d2))
         have D := Lib.hid d3
         have hn64 := hide64 n d1
         clear ep eq en d1 d2 d3 d4 hx64 hy64 ho64 hc64 ho hy hinv
         go_wp2
         go_quiet (fail)
         go_wp2
         rw [hdiv, hmod]
         refine ⟨⟨m + 1, n / H32, l'.set (k + m) (n % H32), by omega, rfl, by go_num, D.out, (hA'.drewN _).set _ _, by rw [Hid, List.length_set]; exact hlen'.out, hbl'.set _ (Nat.mod_lt _ H32_pos), fin, ?_, (below_drewN hB' _).setCell (p := ⟨w2.heap.size, k + m, none⟩) (Nat.le_refl _) _⟩, by simp [intOf]; omega⟩
         refine Lib.hid (fun j hj => ?_)
         rw [lat_set, if_neg (by omega)]
         exact hz'.out j hj
       · obtain rfl : m = b.length := by omega
         have hi2 : k + b.length < l'.length := by rw [hlen'.out]; omega
         have hoc := hA'.cell hi2
         have hof := hA'.frozen (k + b.length)
         have fin := hmul_outer (a := a) (b := b) (i := k) (c := c) hi2 (hz'.out _ (Nat.le_refl _)) (by have := hinv.out; rwa [List.take_length, Hx.out] at this)
         have Fin := Lib.hid fin
         have C := Lib.hid hc64
         clear fin hi2 hc64
         go_wp2
         refine ⟨⟨k + 1, l'.set (k + b.length) c, by omega, by go_num, hA'.set _ _, by rw [Hid, List.length_set]; exact hlen'.out, hbl'.set _ C.out, Fin, ?_, hB'.setCell (p := ⟨w2.heap.size, k + b.length, none⟩) (Nat.le_refl _) _⟩, by simp [intOf]; omega⟩
         refine Lib.hid (fun j hj => ?_)
         rw [lat_set, if_neg (by omega)]
         exact hz'.out j (by omega)
   · obtain rfl : k = a.length := by omega
     have hres := hA.isL hbl.bd (by rw [hlen.out]; omega)
     have hl3 : l.length ≤ 5000000 := by rw [hlen.out]; omega
     rw [hlen.out] at hres
     have N := hnum.out
     rw [List.take_length] at N
     have N' := Lib.hid N
     clear N
     go_wp2_with fail
     refine (whole_any _ l _ hres hbl hl3).mono ?_
     rintro e w' ⟨r, rfl, hr, hb⟩
     go_wp2
     go_ret
     exact ⟨_, rfl, by rw [← N'.out]; exact hr, (hbw.trans (hB.mono hbw.size)).trans (hb.mono (Nat.le_trans hbw.size hB.size))⟩
end Go.Proofs.YtdnjdglekifhpaaGreat
namespace Go.Proofs.YtdnjdglekifhpaaGreat
open Go.RowKit
set_option maxHeartbeats 400000 in
theorem bits_any (v : Value) (a : Nat) (w : World) (h : IsN w v a) (hl : (limbs a).length ≤ 1000000) :
   Calls Tryz.prog 206 #[v] w fun e w' => e = .returned (.int .i64 (bl a : Nat)) ∧ w = w' := by
 obtain ⟨A, c, rfl, hlc, hc, hbd, hr⟩ := h
 have hrt := limbs_rt a
 have hnum := num_limbs a
 generalize limbs a = l at *
 subst hnum
 by_cases h0 : l = []
 · subst h0
   go_enter Tryz.func206, Tryz.ntmps206
   go_wp2
   go_ret
   exact ⟨ret_int (by rw [num, bl_zero]; rfl), rfl⟩
 · have hp : 0 < l.length := List.length_pos_iff.2 h0
   obtain ⟨ad, rfl, _, hx⟩ := us_cell hr (k := l.length - 1) (by omega)
   have e := Lib.hid (bl_num hbd hrt h0)
   have hb64 := bl_le_iff.2 (show lat l (l.length - 1) < 2 ^ 64 from hbd.lat _)
   have e1 : ((l.length : Int) == 0) = false := by simp [h0]
   have hb := hbd.lat (l.length - 1)
   clear h0 hrt
   go_enter Tryz.func206, Tryz.ntmps206
   go_wp2_with ((with_reducible refine (len64_any _ hb _).mono ?_); rintro e w' ⟨rfl, rfl⟩)
   go_ret
   exact ⟨ret_int (by rw [e.out]; omega), rfl⟩
end Go.Proofs.YtdnjdglekifhpaaGreat

namespace Go.Proofs.YtdnjdglekifhpaaGreat
open Go.RowKit
attribute [local go_sem ↓] Go.wp_at_zero Go.wp_at_succ
set_option maxHeartbeats 2000000 in
theorem rzmul_any (va vb : Value) (a b : Int) (w : World) (ha : IsZ w va a) (hb : IsZ w vb b) (sa : Sz a.natAbs 400000) (sb : Sz b.natAbs 400000) :
   Calls Tryz.prog 77 #[va, vb] w fun e w' => ∃ v', e = .returned v' ∧ IsZ w' v' (a * b) ∧ Below w.heap.size w w' := by
 obtain ⟨na, rfl, ha⟩ := ha
 obtain ⟨nb, rfl, hb⟩ := hb
 have hMul := fun w ha hb => rmul_any na nb a.natAbs b.natAbs w ha hb (sa.fin (by omega)) (sb.fin (by omega))
 have hM := fun v w hn => rmade_any (decide (a < 0) != decide (b < 0)) v (a.natAbs * b.natAbs) w hn
 have hz := mul_sided a b
 rw [hz] at hM
 obtain ⟨c, hc⟩ : ∃ c, c = a * b := ⟨_, rfl⟩
 rw [← hc] at hM ⊢
 clear hz hc
 generalize decide (a < 0) = s1 at *
 generalize decide (b < 0) = s2 at *
 generalize a.natAbs * b.natAbs = n at *
 generalize a.natAbs = x at *
 generalize b.natAbs = y at *
 obtain ⟨W0, hW, hT, hR, hB⟩ := box3 w 30 30 30 #[.bool s1, na] #[.bool s2, nb] #[.bool false, .slice none 0 0]
 have ha := ha.below hB
 have hb := hb.below hB
 obtain ⟨g, hg⟩ : ∃ g, g = w.heap.size := ⟨_, rfl⟩
 have hW' := Lib.hid (And.intro hW hg)
 rw [← hg] at hT hR
 clear hW hg
 go_enter Tryz.func77, Tryz.ntmps77
 go_wp2
 rw [← hW'.out.1, ← hW'.out.2]
 go_region_held3 (fun w' => w'.cell? ⟨g, 0, none⟩ = some (.bool s1) ∧ w'.cell? ⟨g, 1, none⟩ = some na ∧ w'.cell? ⟨g + 1, 0, none⟩ = some (.bool s2) ∧ w'.cell? ⟨g + 1, 1, none⟩ = some nb) (first | exact Two.cells22 (by assumption) | exact Two.cells22 (Two.far2 (by assumption) _ _))
   (first
     | (go_at_call 73; refine (hMul _ ?_ ?_).mono ?_; exact ha; exact hb; rintro x w1 ⟨v1, rfl, h1, b1⟩; have b1 := undrew b1; have hT1 := hT.below b1 hT.lt; have hR1 := hR.below b1 hR.lt; have hB1 := hB.trans (b1.mono hB.size))
     | (go_at_call 136; refine (hM _ _ ?_).mono ?_; exact h1; rintro x w2 ⟨v2, rfl, ⟨n2, rfl, h2⟩, b2⟩; obtain ⟨A2, L2, C2, rfl⟩ := h2.frm; have hT2 := hT1.below b2 hT1.lt; have hR2 := hR1.below b2 hR1.lt; have hB2 := hB1.trans (b2.mono hB1.size); have q0 := hR2.cell 0; have q1 := hR2.cell 1; have z0 := hR2.frozen 0; have z1 := hR2.frozen 1))
 obtain ⟨p1, p2, p3⟩ := put2 hR2 (.bool (decide (c < 0))) (.slice A2 L2 C2) (by simp [noU]) hB2 (by rw [hW'.out.2]; omega)
 have P := Lib.hid (And.intro (p2 _ _ h2) (And.intro p3 p1.cells2))
 clear p1 p2 p3
 go_wp2
 obtain ⟨P1, P2, P3, P4⟩ := P.out
 exact bodyPost_ret (v := .agg #[.bool (decide (c < 0)), .slice A2 L2 C2]) (by simp [results, Tryz.results77, go_sem, P3, P4]) rfl ⟨_, rfl, ⟨_, rfl, P1⟩, P2⟩
end Go.Proofs.YtdnjdglekifhpaaGreat
namespace Go.Proofs.YtdnjdglekifhpaaGreat
def cmpQ (a b : Rat) : Int := cmpI (a.num * b.den) (b.num * a.den)
end Go.Proofs.YtdnjdglekifhpaaGreat
namespace Go.Proofs.YtdnjdglekifhpaaGreat
open Go.RowKit
attribute [local go_sem ↓] Go.wp_at_zero Go.wp_at_succ
theorem cmp_sided (a b : Int) : cmpI a b = if decide (a < 0) = decide (b < 0) then (if decide (a < 0) = true then -cmpI a.natAbs b.natAbs else cmpI a.natAbs b.natAbs) else if decide (a < 0) = true then -1 else 1 := by
 unfold cmpI
 by_cases ha : a < 0 <;> by_cases hb : b < 0 <;> simp only [ha, hb, decide_true, decide_false, if_true, if_false, Bool.false_eq_true, Bool.true_eq_false] <;> (repeat' split) <;> omega
set_option maxHeartbeats 1000000 in
theorem rzcmp_any (va vb : Value) (a b : Int) (w : World) (ha : IsZ w va a) (hb : IsZ w vb b) :
   Calls Tryz.prog 79 #[va, vb] w fun e w' => e = .returned (.int .i64 (cmpI a b)) ∧ Below w.heap.size w w' := by
 rw [cmp_sided]
 obtain ⟨na, rfl, ha⟩ := ha
 obtain ⟨nb, rfl, hb⟩ := hb
 have hC := fun w ha hb => rcmp_n na nb a.natAbs b.natAbs w ha hb
 have hbd : -1 ≤ cmpI (a.natAbs : Int) (b.natAbs : Int) ∧ cmpI (a.natAbs : Int) (b.natAbs : Int) ≤ 1 := by unfold cmpI; split <;> (try split) <;> omega
 generalize cmpI (a.natAbs : Int) (b.natAbs : Int) = c at *
 generalize decide (a < 0) = s1 at *
 generalize decide (b < 0) = s2 at *
 obtain ⟨W0, hW, hT, hB⟩ := box2 w 30 30 #[.bool s1, na] #[.bool s2, nb]
 obtain ⟨g, hg⟩ : ∃ g, g = w.heap.size := ⟨_, rfl⟩
 have hW' := Lib.hid (And.intro hW hg)
 rw [← hg] at hT
 clear hW hg
 have ha := ha.below hB
 have hb := hb.below hB
 obtain ⟨k1, k2⟩ := hbd
 have HB := Lib.hid hB
 rcases s1 <;> rcases s2
 all_goals
   go_enter Tryz.func79, Tryz.ntmps79
   go_wp2_with fail
   try (
     rw [← hW'.out.1, ← hW'.out.2]
     refine (hC _ ha hb).mono ?_
     rintro e w1 ⟨rfl, n1, rfl⟩
     have hT := hT.below (below_drewN (Below.refl _ _) n1) hT.lt
     have HB := Lib.hid (below_drewN hB n1)
     obtain ⟨q0, q1, q2, q3⟩ := hT.cells22
     go_wp2)
   go_ret
   exact ⟨rfl, by first | exact HB.out | (have := HB.out; rw [hW'.out.1] at this; exact this)⟩
set_option maxHeartbeats 2000000 in
theorem rqover_any (vp vq : Value) (p : Int) (q : Nat) (w : World) (hp : IsZ w vp p) (hq : IsN w vq q) (sp : Sz p.natAbs 400000) (sq : Sz q 400000) :
   Calls Tryz.prog 72 #[vp, vq] w fun e w' => ∃ v', e = .returned v' ∧ IsZ w' v' (p * (q : Int)) ∧ Below w.heap.size w w' := by
 have hM := fun w va vb ha hb => rzmul_any va vb p (q : Int) w ha hb sp (by simpa using sq)
 have hZ : ∀ w, IsN w vq q → IsZ w (.agg #[.bool false, vq]) (q : Int) := fun w h => ⟨vq, by rw [decide_eq_false (by omega)], by simpa using h⟩
 have hp0 := hp
 obtain ⟨np, rfl, hp⟩ := hp
 obtain ⟨Aq, Lq, Cq, rfl⟩ := hq.frm
 obtain ⟨Ap, Lp, Cp, rfl⟩ := hp.frm
 obtain ⟨c, hc⟩ : ∃ c, c = p * (q : Int) := ⟨_, rfl⟩
 rw [← hc] at hM ⊢
 have HZ := Lib.hid hZ
 clear hc hZ sp sq
 generalize decide (p < 0) = b at *
 obtain ⟨W0, hW, hT, hB⟩ := box2 w 30 30 #[.bool b, .slice Ap Lp Cp] #[.bool false, .slice none 0 0]
 obtain ⟨g, hg⟩ : ∃ g, g = w.heap.size := ⟨_, rfl⟩
 have hW' := Lib.hid (And.intro hW hg)
 rw [← hg] at hT
 clear hW hg
 have hp0 := hp0.below hB
 have hq := HZ.out _ (hq.below hB)
 obtain ⟨q00, q01⟩ := hT.1.cells2
 go_enter Tryz.func72, Tryz.ntmps72
 go_wp2_with fail
 rw [← hW'.out.1, ← hW'.out.2]
 refine (hM _ _ _ hp0 hq).mono ?_
 rintro e w1 ⟨v1, rfl, ⟨n1, rfl, h1⟩, b1⟩
 obtain ⟨A2, L2, C2, rfl⟩ := h1.frm
 have hT := hT.below b1 hT.lt
 have hB := hB.trans (b1.mono hB.size)
 have hR := hT.2
 obtain ⟨p1, p2, p3⟩ := put2 hR (.bool (decide (c < 0))) (.slice A2 L2 C2) (by simp [noU]) hB (by rw [hW'.out.2]; omega)
 have q0 := hR.cell 0
 have z0 := hR.frozen 0
 have q1 := hR.cell 1
 have z1 := hR.frozen 1
 have P := Lib.hid (And.intro (⟨_, rfl, p2 _ _ h1⟩ : IsZ _ (.agg #[.bool (decide (c < 0)), .slice A2 L2 C2]) c) (And.intro p3 p1.cells2))
 clear p1 p2 p3 hM
 go_wp2
 obtain ⟨P1, P2, P3, P4⟩ := P.out
 exact bodyPost_ret (v := .agg #[.bool (decide (c < 0)), .slice A2 L2 C2]) (by simp [results, Tryz.results72, go_sem, P3, P4]) rfl ⟨_, rfl, P1, P2⟩
end Go.Proofs.YtdnjdglekifhpaaGreat
namespace Go.Proofs.YtdnjdglekifhpaaGreat
open Go.RowKit
section
variable {w : World} {R : Nat} {t : TypeId}
theorem put6 {a b c d e f : Value} (hR : Blk w R t #[a, b, c, d, e, f]) (x y z p q r : Value) (hcs : (#[a, b, c, d, e, f] : Array Value).all noU = true) {B : Nat} {w0 : World} (hB : Below B w0 w) (hBR : B ≤ R) :
   Blk ((((((w.setCell ⟨R, 0, none⟩ x).setCell ⟨R, 1, none⟩ y).setCell ⟨R, 2, none⟩ z).setCell ⟨R, 3, none⟩ p).setCell ⟨R, 4, none⟩ q).setCell ⟨R, 5, none⟩ r) R t #[x, y, z, p, q, r] ∧ (∀ v n, IsN w v n → IsN ((((((w.setCell ⟨R, 0, none⟩ x).setCell ⟨R, 1, none⟩ y).setCell ⟨R, 2, none⟩ z).setCell ⟨R, 3, none⟩ p).setCell ⟨R, 4, none⟩ q).setCell ⟨R, 5, none⟩ r) v n) ∧ Below B w0 ((((((w.setCell ⟨R, 0, none⟩ x).setCell ⟨R, 1, none⟩ y).setCell ⟨R, 2, none⟩ z).setCell ⟨R, 3, none⟩ p).setCell ⟨R, 4, none⟩ q).setCell ⟨R, 5, none⟩ r) := by
 obtain ⟨W, rfl, h1, h2, h3, h4⟩ := fill6 hR x y z p q r hcs
 exact ⟨h1, fun v n h => h2 _ _ h, h4 _ _ hBR hB⟩
theorem Blk.cells6 {g : Nat} {a b c d e f : Value} (h : Blk w g t #[a, b, c, d, e, f]) : w.cell? ⟨g, 0, none⟩ = some a ∧ w.cell? ⟨g, 1, none⟩ = some b ∧ w.cell? ⟨g, 2, none⟩ = some c ∧ w.cell? ⟨g, 3, none⟩ = some d ∧ w.cell? ⟨g, 4, none⟩ = some e ∧ w.cell? ⟨g, 5, none⟩ = some f := ⟨h.cell 0, h.cell 1, h.cell 2, h.cell 3, h.cell 4, h.cell 5⟩
end
section
variable {w w' : World} {es : List Eq3} {rs : List Rat} {v : Value}
theorem flatQ_len : ∀ es : List Eq3, (flatQ es).length = es.length * 3
 | [] => rfl
 | e :: r => by
   have := flatQ_len r
   unfold flatQ at *
   rw [List.flatMap_cons, List.length_append, this]
   simp [cellsQ]; omega
end
attribute [local go_sem ↓] Go.wp_at_zero Go.wp_at_succ
theorem cmp_sided2 (a b : Int) : cmpI a b = if decide (a < 0) = true ∧ decide (b < 0) = false then -1 else if decide (b < 0) = true ∧ decide (a < 0) = false then 1 else if decide (a < 0) = true then cmpI b.natAbs a.natAbs else cmpI a.natAbs b.natAbs := by
 unfold cmpI
 by_cases ha : a < 0 <;> by_cases hb : b < 0 <;> simp only [ha, hb, decide_true, decide_false, and_self, and_true, and_false, if_true, if_false, Bool.false_eq_true, Bool.true_eq_false] <;> (repeat' split) <;> omega
set_option maxHeartbeats 2000000 in
theorem pzcmp_any (va vb : Value) (a b : Int) (w : World) (ha : IsZ w va a) (hb : IsZ w vb b) :
   Calls Tryz.prog 210 #[va, vb] w fun e w' => e = .returned (.int .i64 (cmpI a b)) ∧ Below w.heap.size w w' := by
 rw [cmp_sided2]
 obtain ⟨na, rfl, ha⟩ := ha
 obtain ⟨nb, rfl, hb⟩ := hb
 have hC := fun w ha hb => cmp_any na nb a.natAbs b.natAbs w ha hb
 have hD := fun w ha hb => cmp_any nb na b.natAbs a.natAbs w ha hb
 generalize cmpI (a.natAbs : Int) (b.natAbs : Int) = c at *
 generalize cmpI (b.natAbs : Int) (a.natAbs : Int) = d at *
 generalize decide (a < 0) = s1 at *
 generalize decide (b < 0) = s2 at *
 rcases s1 with _ | _
 · rcases s2 with _ | _
   · obtain ⟨W0, hW, hT, hB⟩ := box2 w 30 30 #[.bool false, na] #[.bool false, nb]
     obtain ⟨g, hg⟩ : ∃ g, g = w.heap.size := ⟨_, rfl⟩
     have hW' := Lib.hid (And.intro hW hg)
     rw [← hg] at hT
     have hgw : w.heap.size ≤ g := by omega
     clear hW hg
     obtain ⟨hX, hY⟩ := hT
     replace ha := ha.below hB
     replace hb := hb.below hB
     obtain ⟨c1_hX_0, c1_hX_1⟩ := hX.cells2
     obtain ⟨c1_hY_0, c1_hY_1⟩ := hY.cells2
     go_enter Tryz.func210, Tryz.ntmps210
     go_wp2_with fail
     rw [← hW'.out.1, ← hW'.out.2]
     refine (hC _ ha hb).mono ?_
     rintro e w1 ⟨rfl, b1⟩
     replace ha := ha.below b1
     replace hb := hb.below b1
     replace hX := hX.below b1 hX.lt
     replace hY := hY.below b1 hY.lt
     replace hB := hB.trans (b1.mono hB.size)
     clear c1_hX_0 c1_hX_1 c1_hY_0 c1_hY_1
     obtain ⟨c2_hX_0, c2_hX_1⟩ := hX.cells2
     obtain ⟨c2_hY_0, c2_hY_1⟩ := hY.cells2
     go_wp2
     go_ret
     exact ⟨rfl, hB⟩
   · obtain ⟨W0, hW, hT, hB⟩ := box2 w 30 30 #[.bool false, na] #[.bool true, nb]
     obtain ⟨g, hg⟩ : ∃ g, g = w.heap.size := ⟨_, rfl⟩
     have hW' := Lib.hid (And.intro hW hg)
     rw [← hg] at hT
     have hgw : w.heap.size ≤ g := by omega
     clear hW hg
     obtain ⟨hX, hY⟩ := hT
     replace ha := ha.below hB
     replace hb := hb.below hB
     obtain ⟨c1_hX_0, c1_hX_1⟩ := hX.cells2
     obtain ⟨c1_hY_0, c1_hY_1⟩ := hY.cells2
     go_enter Tryz.func210, Tryz.ntmps210
     go_wp2
     go_ret
     exact ⟨rfl, by have := hB; rw [hW'.out.1] at this; exact this⟩
 · rcases s2 with _ | _
   · obtain ⟨W0, hW, hT, hB⟩ := box2 w 30 30 #[.bool true, na] #[.bool false, nb]
     obtain ⟨g, hg⟩ : ∃ g, g = w.heap.size := ⟨_, rfl⟩
     have hW' := Lib.hid (And.intro hW hg)
     rw [← hg] at hT
     have hgw : w.heap.size ≤ g := by omega
     clear hW hg
     obtain ⟨hX, hY⟩ := hT
     replace ha := ha.below hB
     replace hb := hb.below hB
     obtain ⟨c1_hX_0, c1_hX_1⟩ := hX.cells2
     obtain ⟨c1_hY_0, c1_hY_1⟩ := hY.cells2
     go_enter Tryz.func210, Tryz.ntmps210
     go_wp2
     go_ret
     exact ⟨rfl, by have := hB; rw [hW'.out.1] at this; exact this⟩
   · obtain ⟨Aa, La, Ca, rfl⟩ := ha.frm
     obtain ⟨Ab, Lb, Cb, rfl⟩ := hb.frm
     obtain ⟨W0, hW, hT, hB⟩ := box2 w 30 30 #[.bool true, .slice Ab Lb Cb] #[.bool true, .slice Aa La Ca]
     obtain ⟨g, hg⟩ : ∃ g, g = w.heap.size := ⟨_, rfl⟩
     have hW' := Lib.hid (And.intro hW hg)
     rw [← hg] at hT
     have hgw : w.heap.size ≤ g := by omega
     clear hW hg
     obtain ⟨hX, hY⟩ := hT
     replace ha := ha.below hB
     replace hb := hb.below hB
     obtain ⟨c1_hX_0, c1_hX_1⟩ := hX.cells2
     obtain ⟨c1_hY_0, c1_hY_1⟩ := hY.cells2
     go_enter Tryz.func210, Tryz.ntmps210
     go_wp2_with fail
     rw [← hW'.out.1, ← hW'.out.2]
     refine (hD _ hb ha).mono ?_
     rintro e w1 ⟨rfl, b1⟩
     replace ha := ha.below b1
     replace hb := hb.below b1
     replace hX := hX.below b1 hX.lt
     replace hY := hY.below b1 hY.lt
     replace hB := hB.trans (b1.mono hB.size)
     clear c1_hX_0 c1_hX_1 c1_hY_0 c1_hY_1
     obtain ⟨c2_hX_0, c2_hX_1⟩ := hX.cells2
     obtain ⟨c2_hY_0, c2_hY_1⟩ := hY.cells2
     go_wp2
     go_ret
     exact ⟨rfl, hB⟩
def rightZ (b : Bool) (l : List Nat) : Bool := decide (l = [] ∨ lat l (l.length - 1) ≠ 0) && !(b && decide (l.length = 0))
set_option maxHeartbeats 2000000 in
theorem rqcmp_any (va vb : Value) (a b : Rat) (w : World) (ha : IsQ w va a) (hb : IsQ w vb b) (sa : BQ a 10000) (sb : BQ b 10000) :
   Calls Tryz.prog 28 #[va, vb] w fun e w' => e = .returned (.int .i64 (cmpQ a b)) ∧ Below w.heap.size w w' := by
 obtain ⟨pa, qa, rfl, hpa, hqa⟩ := ha
 have hza : IsZ w (.agg #[.bool (decide (a.num < 0)), pa]) a.num := ⟨_, rfl, hpa⟩
 obtain ⟨pb, qb, rfl, hpb, hqb⟩ := hb
 have hzb : IsZ w (.agg #[.bool (decide (b.num < 0)), pb]) b.num := ⟨_, rfl, hpb⟩
 have hO1 := fun w hp hq => rqover_any (.agg #[.bool (decide (a.num < 0)), pa]) qb a.num b.den w hp hq (sa.1.more (by omega)) (sb.2.more (by omega))
 have hO2 := fun w hp hq => rqover_any (.agg #[.bool (decide (b.num < 0)), pb]) qa b.num a.den w hp hq (sb.1.more (by omega)) (sa.2.more (by omega))
 have hC := fun u v w hu hv => rzcmp_any u v (a.num * b.den) (b.num * a.den) w hu hv
 rw [show cmpQ a b = cmpI (a.num * b.den) (b.num * a.den) from rfl]
 generalize cmpI (a.num * b.den) (b.num * a.den) = c at *
 generalize a.num * (b.den : Int) = m1 at *
 generalize b.num * (a.den : Int) = m2 at *
 generalize a.num = na at *
 generalize b.num = nb at *
 clear hpa hpb sa sb
 generalize decide (na < 0) = sa at *
 generalize decide (nb < 0) = sb at *
 obtain ⟨W0, hW, hT, hB⟩ := box2 w 32 32 #[.bool sa, pa, qa] #[.bool sb, pb, qb]
 obtain ⟨g, hg⟩ : ∃ g, g = w.heap.size := ⟨_, rfl⟩
 have hW' := Lib.hid (And.intro hW hg)
 rw [← hg] at hT
 clear hW hg
 have hza := hza.below hB
 have hzb := hzb.below hB
 have hqa := hqa.below hB
 have hqb := hqb.below hB
 go_enter Tryz.func28, Tryz.ntmps28
 go_wp2
 rw [← hW'.out.1, ← hW'.out.2]
 go_region_held3 (fun w' => w'.cell? ⟨g, 0, none⟩ = some (.bool sa) ∧ w'.cell? ⟨g, 1, none⟩ = some pa ∧ w'.cell? ⟨g, 2, none⟩ = some qa ∧ w'.cell? ⟨g + 1, 0, none⟩ = some (.bool sb) ∧ w'.cell? ⟨g + 1, 1, none⟩ = some pb ∧ w'.cell? ⟨g + 1, 2, none⟩ = some qb) (exact Two.cells33 (hT.below (by first | assumption | exact balloc (by assumption) _ | exact bdrew _ | exact balloc (bdrew _) _) hT.lt))
   (first
     | (go_at_call 72; (with_reducible refine (hO1 _ ?_ ?_).mono ?_); exact hza.below (by first | assumption | exact balloc (by assumption) _ | exact bdrew _ | exact balloc (bdrew _) _); exact hqb.below (by first | assumption | exact balloc (by assumption) _ | exact bdrew _ | exact balloc (bdrew _) _); rintro x w1 ⟨v1, rfl, h1, b1⟩; have B1 := bstep (by first | assumption | exact balloc (by assumption) _ | exact bdrew _ | exact balloc (bdrew _) _) b1)
     | (go_at_call 72; (with_reducible refine (hO2 _ ?_ ?_).mono ?_); exact hzb.below (by first | assumption | exact balloc (by assumption) _ | exact bdrew _ | exact balloc (bdrew _) _); exact hqa.below (by first | assumption | exact balloc (by assumption) _ | exact bdrew _ | exact balloc (bdrew _) _); rintro x w2 ⟨v2, rfl, h2, b2⟩; have B2 := bstep (by first | assumption | exact balloc (by assumption) _ | exact bdrew _ | exact balloc (bdrew _) _) b2; have h1 := h1.below (by first | exact b2 | exact bstep (balloc (Below.refl _ _) _) b2))
     | (go_at_call 79; (with_reducible refine (hC _ _ _ ?_ ?_).mono ?_); exact h1.below (by first | exact Below.refl _ _ | exact balloc (Below.refl _ _) _); exact h2.below (by first | exact Below.refl _ _ | exact balloc (Below.refl _ _) _); rintro x w3 ⟨rfl, b3⟩; have B3 := bstep (by first | assumption | exact balloc (by assumption) _ | exact bdrew _ | exact balloc (bdrew _) _) b3))
 go_wp2
 go_ret
 exact ⟨rfl, hB.trans (B3.mono hB.size)⟩
theorem rnd_flr (a : Rat) (k : Nat) : flr a k = sided (decide (a.num < 0)) (rndN a k (decide (a.num < 0))) := by
 unfold rndN
 by_cases h : a.num < 0
 · rw [flr_neg _ _ h, decide_eq_true h]; simp [sided]
 · rw [flr_pos _ _ h, decide_eq_false h]; simp [sided]
set_option maxRecDepth 100000 in
set_option maxHeartbeats 4000000 in
theorem pfloor1_any (u v x : Value) (X : Nat) (s : Bool) (pa qa : Value) (w : World) (hX : Blk w X 32 #[.bool s, pa, qa]) :
   Calls Tryz.prog 207 #[u, v, x, .pointer (some ⟨X, 0, none⟩)] w fun e w' => e = .returned (.bool s) ∧ w = w' := by
 have c0 : World.cell? w ⟨X, 0, none⟩ = some (.bool s) := hX.cell 0
 go_enter Tryz.func207, Tryz.ntmps207
 go_wp2
 go_ret
 exact ⟨rfl, rfl⟩
set_option maxRecDepth 100000 in
set_option maxHeartbeats 4000000 in
theorem prounded_floor (v : Value) (a : Rat) (k : Nat) (X : Nat) (w : World) (h : IsQ w v a) (hk : k ≤ 2000) (sa : BQ a 10000) (hX : ∃ p q, Blk w X 32 #[.bool (decide (a.num < 0)), p, q]) :
   Calls Tryz.prog 128 #[v, .int .i64 k, .func (.func 207) #[] #[.pointer (some ⟨X, 0, none⟩)]] w fun e w' => ∃ v', e = .returned (.tuple #[v', .int .i64 0]) ∧ IsZ w' v' (flr a k) ∧ Below w.heap.size w w' := by
 have hd := Rat.den_pos a
 obtain ⟨px, qx, hX⟩ := hX
 obtain ⟨s, A, L, C, D, M, E, rfl, hq⟩ := h.opn
 obtain ⟨es, hz, hn⟩ := hq.parts
 obtain ⟨-, hp⟩ := hz.parts
 rw [← es] at hX
 have hS := fun w h => dshl_any (.slice A L C) a.num.natAbs k (by omega) w h (sa.1.fin (by omega))
 have s2 : Sz (a.num.natAbs * 2 ^ k) 20000 := (sa.1.mul (Sz.two_pow k)).more (by omega)
 have hD := fun u w hu hv => ddivmod_any u (.slice D M E) (a.num.natAbs * 2 ^ k) a.den w hu hv (s2.more (by omega)) (sa.2.more (by omega)) hd
 have s3 : Sz (a.num.natAbs * 2 ^ k / a.den) 20000 := s2.le (Nat.div_le_self _ _)
 have hO := fun w => of_any 1 (by unfold W64; omega) w
 have hA := fun u v w hu hv => add_any u v (a.num.natAbs * 2 ^ k / a.den) 1 w hu hv (s3.fin (by omega)) (Sz.one.fin (by omega))
 have hC := fun u v x w h => pfloor1_any u v x X s px qx w h
 have hv : flr a k = sided s (rndN a k s) := by rw [es]; exact rnd_flr a k
 have hr : rndN a k s = a.num.natAbs * 2 ^ k / a.den + (if 0 < a.num.natAbs * 2 ^ k % a.den ∧ s = true then 1 else 0) := rfl
 rw [hr] at hv
 generalize flr a k = z at *
 generalize a.num.natAbs * 2 ^ k / a.den = n at *
 generalize a.num.natAbs * 2 ^ k % a.den = r at *
 generalize a.num.natAbs * 2 ^ k = m at *
 generalize a.num.natAbs = x at *
 generalize a.den = d at *
 have hd0 : decide ((k : Int) < 0) = false := decide_eq_false (by omega)
 have hd1 : ¬ (2000 : Int) < (k : Int) := by omega
 clear s2 s3 sa hd hz es hr hq
 rcases s with _ | _
 · -- s = False
   rcases Nat.eq_zero_or_pos r with hr0 | hr0
   · have HR := Lib.hid hr0
     rw [if_neg (by omega), Nat.add_zero] at hv
     have HZ : Hid (decide (z < 0) = false ∧ z.natAbs = n) := by rw [Hid, hv]; simp [sided]
     clear hr0 hv
     obtain ⟨Y0, eY0, hT, bY0⟩ := box1 w 32 #[.bool false, .slice A L C, .slice D M E]
     obtain ⟨Y1, eY1, hR, bY1⟩ := box1 Y0 30 #[.bool false, .slice none 0 0]
     obtain ⟨g, hg⟩ : ∃ g, g = w.heap.size := ⟨_, rfl⟩
     have zY0 : Y0.heap.size = g + 1 := by rw [eY0, World.size_alloc, ← hg]
     rw [← hg] at hT
     rw [zY0] at hR
     replace hT := hT.below bY1 hT.lt
     replace hX := (hX.below bY0 hX.lt).below bY1 (by have := hX.lt; have := bY0.size; omega)
     replace hp := (hp.below bY0).below bY1
     replace hn := (hn.below bY0).below bY1
     have hB := bY0.trans (bY1.mono bY0.size)
     have hgw : w.heap.size ≤ g := by omega
     have EY := Lib.hid (And.intro hg (And.intro eY0 eY1))
     clear hg eY0 eY1 zY0
     obtain ⟨c0, c1, c2⟩ := hX.q3
     obtain ⟨c3, c4, c5⟩ := hT.q3
     obtain ⟨c6, c7⟩ := hR.q2
     go_enter Tryz.func128, Tryz.ntmps128
     go_wp2_with fail
     rw [← EY.out.2.1, ← EY.out.2.2, ← EY.out.1]
     refine (hS _ hp).mono ?_
     rintro e w2 ⟨v1, rfl, h1, b2⟩
     replace hp := hp.below b2
     replace hn := hn.below b2
     replace hX := hX.below b2 hX.lt
     replace hT := hT.below b2 hT.lt
     replace hR := hR.below b2 hR.lt
     replace hB := hB.trans (b2.mono hB.size)
     clear c0 c1 c2 c3 c4 c5 c6 c7
     obtain ⟨c8, c9, c10⟩ := hX.q3
     obtain ⟨c11, c12, c13⟩ := hT.q3
     obtain ⟨c14, c15⟩ := hR.q2
     go_wp2_with fail
     refine (hD _ _ h1 hn).mono ?_
     rintro e w4 ⟨v2, v3, rfl, h2, h3, b4⟩
     replace hn := hn.below b4
     replace hX := hX.below b4 hX.lt
     replace hT := hT.below b4 hT.lt
     replace hR := hR.below b4 hR.lt
     replace h1 := h1.below b4
     replace hB := hB.trans (b4.mono hB.size)
     clear c8 c9 c10 c11 c12 c13 c14 c15
     obtain ⟨c16, c17, c18⟩ := hX.q3
     obtain ⟨c19, c20, c21⟩ := hT.q3
     obtain ⟨c22, c23⟩ := hR.q2
     obtain ⟨A2, L2, C2, rfl, h2⟩ := h2.opn
     obtain ⟨A3, C3, rfl⟩ := h3.zeroL HR.out
     clear h3
     obtain ⟨p1, p2, p3⟩ := put2 hR (.bool false) (.slice A2 L2 C2) (by simp [noU]) hB (by omega)
     have rc0 : World.cell? _ ⟨g + 1, 0, none⟩ = some (.bool false) := hR.cell 0
     have rf0 := hR.frozen 0
     have rc1 : World.cell? _ ⟨g + 1, 1, none⟩ = some (.slice none 0 0) := hR.cell 1
     have rf1 := hR.frozen 1
     have P := Lib.hid (And.intro (show IsZ _ (.agg #[.bool false, .slice A2 L2 C2]) z from ⟨_, by rw [show decide (z < 0) = false from HZ.out.1], by rw [HZ.out.2]; exact p2 _ _ h2⟩) (And.intro p3 p1.cells2))
     clear p1 p2 p3
     go_wp2_with fail
     obtain ⟨P1, P2, P3, P4⟩ := P.out
     exact bodyPost_ret (v := .tuple #[.agg #[.bool false, .slice A2 L2 C2], .int .i64 0]) (by simp [results, Tryz.results128, go_sem, P3, P4]) rfl ⟨_, rfl, P1, P2⟩
   · have HR := Lib.hid hr0
     rw [if_neg (by simp), Nat.add_zero] at hv
     have HZ : Hid (decide (z < 0) = false ∧ z.natAbs = n) := by rw [Hid, hv]; simp [sided]
     clear hr0 hv
     obtain ⟨Y0, eY0, hT, bY0⟩ := box1 w 32 #[.bool false, .slice A L C, .slice D M E]
     obtain ⟨Y1, eY1, hR, bY1⟩ := box1 Y0 30 #[.bool false, .slice none 0 0]
     obtain ⟨g, hg⟩ : ∃ g, g = w.heap.size := ⟨_, rfl⟩
     have zY0 : Y0.heap.size = g + 1 := by rw [eY0, World.size_alloc, ← hg]
     rw [← hg] at hT
     rw [zY0] at hR
     replace hT := hT.below bY1 hT.lt
     replace hX := (hX.below bY0 hX.lt).below bY1 (by have := hX.lt; have := bY0.size; omega)
     replace hp := (hp.below bY0).below bY1
     replace hn := (hn.below bY0).below bY1
     have hB := bY0.trans (bY1.mono bY0.size)
     have hgw : w.heap.size ≤ g := by omega
     have EY := Lib.hid (And.intro hg (And.intro eY0 eY1))
     clear hg eY0 eY1 zY0
     obtain ⟨c0, c1, c2⟩ := hX.q3
     obtain ⟨c3, c4, c5⟩ := hT.q3
     obtain ⟨c6, c7⟩ := hR.q2
     go_enter Tryz.func128, Tryz.ntmps128
     go_wp2_with fail
     rw [← EY.out.2.1, ← EY.out.2.2, ← EY.out.1]
     refine (hS _ hp).mono ?_
     rintro e w2 ⟨v1, rfl, h1, b2⟩
     replace hp := hp.below b2
     replace hn := hn.below b2
     replace hX := hX.below b2 hX.lt
     replace hT := hT.below b2 hT.lt
     replace hR := hR.below b2 hR.lt
     replace hB := hB.trans (b2.mono hB.size)
     clear c0 c1 c2 c3 c4 c5 c6 c7
     obtain ⟨c8, c9, c10⟩ := hX.q3
     obtain ⟨c11, c12, c13⟩ := hT.q3
     obtain ⟨c14, c15⟩ := hR.q2
     go_wp2_with fail
     refine (hD _ _ h1 hn).mono ?_
     rintro e w4 ⟨v2, v3, rfl, h2, h3, b4⟩
     replace hn := hn.below b4
     replace hX := hX.below b4 hX.lt
     replace hT := hT.below b4 hT.lt
     replace hR := hR.below b4 hR.lt
     replace h1 := h1.below b4
     replace hB := hB.trans (b4.mono hB.size)
     clear c8 c9 c10 c11 c12 c13 c14 c15
     obtain ⟨c16, c17, c18⟩ := hX.q3
     obtain ⟨c19, c20, c21⟩ := hT.q3
     obtain ⟨c22, c23⟩ := hR.q2
     obtain ⟨A2, L2, C2, rfl, h2⟩ := h2.opn
     obtain ⟨A3, L3, C3, rfl, hL3⟩ := h3.pos HR.out
     have hL3i : (0 : Int) < (L3 : Int) := by omega
     clear h3
     go_wp2_with fail
     refine (hC _ _ _ _ hX).mono ?_
     rintro e w6 ⟨rfl, rfl⟩
     obtain ⟨p1, p2, p3⟩ := put2 hR (.bool false) (.slice A2 L2 C2) (by simp [noU]) hB (by omega)
     have rc0 : World.cell? _ ⟨g + 1, 0, none⟩ = some (.bool false) := hR.cell 0
     have rf0 := hR.frozen 0
     have rc1 : World.cell? _ ⟨g + 1, 1, none⟩ = some (.slice none 0 0) := hR.cell 1
     have rf1 := hR.frozen 1
     have P := Lib.hid (And.intro (show IsZ _ (.agg #[.bool false, .slice A2 L2 C2]) z from ⟨_, by rw [show decide (z < 0) = false from HZ.out.1], by rw [HZ.out.2]; exact p2 _ _ h2⟩) (And.intro p3 p1.cells2))
     clear p1 p2 p3
     go_wp2_with fail
     obtain ⟨P1, P2, P3, P4⟩ := P.out
     exact bodyPost_ret (v := .tuple #[.agg #[.bool false, .slice A2 L2 C2], .int .i64 0]) (by simp [results, Tryz.results128, go_sem, P3, P4]) rfl ⟨_, rfl, P1, P2⟩
 · -- s = True
   rcases Nat.eq_zero_or_pos r with hr0 | hr0
   · have HR := Lib.hid hr0
     rw [if_neg (by omega), Nat.add_zero] at hv
     rcases Nat.eq_zero_or_pos n with hn0 | hn0
     · have HQ := Lib.hid hn0
       have HZ : Hid (decide (z < 0) = false ∧ z.natAbs = n) := by rw [Hid, hv, hn0]; simp [sided]
       clear hr0 hv hn0
       obtain ⟨Y0, eY0, hT, bY0⟩ := box1 w 32 #[.bool true, .slice A L C, .slice D M E]
       obtain ⟨Y1, eY1, hR, bY1⟩ := box1 Y0 30 #[.bool false, .slice none 0 0]
       obtain ⟨g, hg⟩ : ∃ g, g = w.heap.size := ⟨_, rfl⟩
       have zY0 : Y0.heap.size = g + 1 := by rw [eY0, World.size_alloc, ← hg]
       rw [← hg] at hT
       rw [zY0] at hR
       replace hT := hT.below bY1 hT.lt
       replace hX := (hX.below bY0 hX.lt).below bY1 (by have := hX.lt; have := bY0.size; omega)
       replace hp := (hp.below bY0).below bY1
       replace hn := (hn.below bY0).below bY1
       have hB := bY0.trans (bY1.mono bY0.size)
       have hgw : w.heap.size ≤ g := by omega
       have EY := Lib.hid (And.intro hg (And.intro eY0 eY1))
       clear hg eY0 eY1 zY0
       obtain ⟨c0, c1, c2⟩ := hX.q3
       obtain ⟨c3, c4, c5⟩ := hT.q3
       obtain ⟨c6, c7⟩ := hR.q2
       go_enter Tryz.func128, Tryz.ntmps128
       go_wp2_with fail
       rw [← EY.out.2.1, ← EY.out.2.2, ← EY.out.1]
       refine (hS _ hp).mono ?_
       rintro e w2 ⟨v1, rfl, h1, b2⟩
       replace hp := hp.below b2
       replace hn := hn.below b2
       replace hX := hX.below b2 hX.lt
       replace hT := hT.below b2 hT.lt
       replace hR := hR.below b2 hR.lt
       replace hB := hB.trans (b2.mono hB.size)
       clear c0 c1 c2 c3 c4 c5 c6 c7
       obtain ⟨c8, c9, c10⟩ := hX.q3
       obtain ⟨c11, c12, c13⟩ := hT.q3
       obtain ⟨c14, c15⟩ := hR.q2
       go_wp2_with fail
       refine (hD _ _ h1 hn).mono ?_
       rintro e w4 ⟨v2, v3, rfl, h2, h3, b4⟩
       replace hn := hn.below b4
       replace hX := hX.below b4 hX.lt
       replace hT := hT.below b4 hT.lt
       replace hR := hR.below b4 hR.lt
       replace h1 := h1.below b4
       replace hB := hB.trans (b4.mono hB.size)
       clear c8 c9 c10 c11 c12 c13 c14 c15
       obtain ⟨c16, c17, c18⟩ := hX.q3
       obtain ⟨c19, c20, c21⟩ := hT.q3
       obtain ⟨c22, c23⟩ := hR.q2
       obtain ⟨A2, L2, C2, rfl, h2⟩ := h2.opn
       obtain ⟨A3, C3, rfl⟩ := h3.zeroL HR.out
       clear h3
       obtain ⟨A6, C6, e6⟩ := h2.zeroL HQ.out
       obtain ⟨rfl, rfl, rfl⟩ := Value.slice.inj e6
       clear e6
       obtain ⟨p1, p2, p3⟩ := put2 hR (.bool false) (.slice A2 0 C2) (by simp [noU]) hB (by omega)
       have rc0 : World.cell? _ ⟨g + 1, 0, none⟩ = some (.bool false) := hR.cell 0
       have rf0 := hR.frozen 0
       have rc1 : World.cell? _ ⟨g + 1, 1, none⟩ = some (.slice none 0 0) := hR.cell 1
       have rf1 := hR.frozen 1
       have P := Lib.hid (And.intro (show IsZ _ (.agg #[.bool false, .slice A2 0 C2]) z from ⟨_, by rw [show decide (z < 0) = false from HZ.out.1], by rw [HZ.out.2]; exact p2 _ _ h2⟩) (And.intro p3 p1.cells2))
       clear p1 p2 p3
       go_wp2_with fail
       obtain ⟨P1, P2, P3, P4⟩ := P.out
       exact bodyPost_ret (v := .tuple #[.agg #[.bool false, .slice A2 0 C2], .int .i64 0]) (by simp [results, Tryz.results128, go_sem, P3, P4]) rfl ⟨_, rfl, P1, P2⟩
     · have HQ := Lib.hid hn0
       have HZ : Hid (decide (z < 0) = true ∧ z.natAbs = n) := by rw [Hid, hv]; simp [sided]; omega
       clear hr0 hv hn0
       obtain ⟨Y0, eY0, hT, bY0⟩ := box1 w 32 #[.bool true, .slice A L C, .slice D M E]
       obtain ⟨Y1, eY1, hR, bY1⟩ := box1 Y0 30 #[.bool false, .slice none 0 0]
       obtain ⟨g, hg⟩ : ∃ g, g = w.heap.size := ⟨_, rfl⟩
       have zY0 : Y0.heap.size = g + 1 := by rw [eY0, World.size_alloc, ← hg]
       rw [← hg] at hT
       rw [zY0] at hR
       replace hT := hT.below bY1 hT.lt
       replace hX := (hX.below bY0 hX.lt).below bY1 (by have := hX.lt; have := bY0.size; omega)
       replace hp := (hp.below bY0).below bY1
       replace hn := (hn.below bY0).below bY1
       have hB := bY0.trans (bY1.mono bY0.size)
       have hgw : w.heap.size ≤ g := by omega
       have EY := Lib.hid (And.intro hg (And.intro eY0 eY1))
       clear hg eY0 eY1 zY0
       obtain ⟨c0, c1, c2⟩ := hX.q3
       obtain ⟨c3, c4, c5⟩ := hT.q3
       obtain ⟨c6, c7⟩ := hR.q2
       go_enter Tryz.func128, Tryz.ntmps128
       go_wp2_with fail
       rw [← EY.out.2.1, ← EY.out.2.2, ← EY.out.1]
       refine (hS _ hp).mono ?_
       rintro e w2 ⟨v1, rfl, h1, b2⟩
       replace hp := hp.below b2
       replace hn := hn.below b2
       replace hX := hX.below b2 hX.lt
       replace hT := hT.below b2 hT.lt
       replace hR := hR.below b2 hR.lt
       replace hB := hB.trans (b2.mono hB.size)
       clear c0 c1 c2 c3 c4 c5 c6 c7
       obtain ⟨c8, c9, c10⟩ := hX.q3
       obtain ⟨c11, c12, c13⟩ := hT.q3
       obtain ⟨c14, c15⟩ := hR.q2
       go_wp2_with fail
       refine (hD _ _ h1 hn).mono ?_
       rintro e w4 ⟨v2, v3, rfl, h2, h3, b4⟩
       replace hn := hn.below b4
       replace hX := hX.below b4 hX.lt
       replace hT := hT.below b4 hT.lt
       replace hR := hR.below b4 hR.lt
       replace h1 := h1.below b4
       replace hB := hB.trans (b4.mono hB.size)
       clear c8 c9 c10 c11 c12 c13 c14 c15
       obtain ⟨c16, c17, c18⟩ := hX.q3
       obtain ⟨c19, c20, c21⟩ := hT.q3
       obtain ⟨c22, c23⟩ := hR.q2
       obtain ⟨A2, L2, C2, rfl, h2⟩ := h2.opn
       obtain ⟨A3, C3, rfl⟩ := h3.zeroL HR.out
       clear h3
       obtain ⟨A6, L6, C6, e6, hL6⟩ := h2.pos HQ.out
       obtain ⟨rfl, rfl, rfl⟩ := Value.slice.inj e6
       clear e6
       have hL6i : (0 : Int) < (L2 : Int) := by omega
       skip
       obtain ⟨p1, p2, p3⟩ := put2 hR (.bool true) (.slice A2 L2 C2) (by simp [noU]) hB (by omega)
       have rc0 : World.cell? _ ⟨g + 1, 0, none⟩ = some (.bool false) := hR.cell 0
       have rf0 := hR.frozen 0
       have rc1 : World.cell? _ ⟨g + 1, 1, none⟩ = some (.slice none 0 0) := hR.cell 1
       have rf1 := hR.frozen 1
       have P := Lib.hid (And.intro (show IsZ _ (.agg #[.bool true, .slice A2 L2 C2]) z from ⟨_, by rw [show decide (z < 0) = true from HZ.out.1], by rw [HZ.out.2]; exact p2 _ _ h2⟩) (And.intro p3 p1.cells2))
       clear p1 p2 p3
       go_wp2_with fail
       obtain ⟨P1, P2, P3, P4⟩ := P.out
       exact bodyPost_ret (v := .tuple #[.agg #[.bool true, .slice A2 L2 C2], .int .i64 0]) (by simp [results, Tryz.results128, go_sem, P3, P4]) rfl ⟨_, rfl, P1, P2⟩
   · have HR := Lib.hid hr0
     rw [if_pos ⟨hr0, rfl⟩] at hv
     have HQ : Hid (0 < n + 1) := by rw [Hid]; omega
     have HZ : Hid (decide (z < 0) = true ∧ z.natAbs = n + 1) := by rw [Hid, hv]; simp [sided]; omega
     clear hr0 hv
     obtain ⟨Y0, eY0, hT, bY0⟩ := box1 w 32 #[.bool true, .slice A L C, .slice D M E]
     obtain ⟨Y1, eY1, hR, bY1⟩ := box1 Y0 30 #[.bool false, .slice none 0 0]
     obtain ⟨g, hg⟩ : ∃ g, g = w.heap.size := ⟨_, rfl⟩
     have zY0 : Y0.heap.size = g + 1 := by rw [eY0, World.size_alloc, ← hg]
     rw [← hg] at hT
     rw [zY0] at hR
     replace hT := hT.below bY1 hT.lt
     replace hX := (hX.below bY0 hX.lt).below bY1 (by have := hX.lt; have := bY0.size; omega)
     replace hp := (hp.below bY0).below bY1
     replace hn := (hn.below bY0).below bY1
     have hB := bY0.trans (bY1.mono bY0.size)
     have hgw : w.heap.size ≤ g := by omega
     have EY := Lib.hid (And.intro hg (And.intro eY0 eY1))
     clear hg eY0 eY1 zY0
     obtain ⟨c0, c1, c2⟩ := hX.q3
     obtain ⟨c3, c4, c5⟩ := hT.q3
     obtain ⟨c6, c7⟩ := hR.q2
     go_enter Tryz.func128, Tryz.ntmps128
     go_wp2_with fail
     rw [← EY.out.2.1, ← EY.out.2.2, ← EY.out.1]
     refine (hS _ hp).mono ?_
     rintro e w2 ⟨v1, rfl, h1, b2⟩
     replace hp := hp.below b2
     replace hn := hn.below b2
     replace hX := hX.below b2 hX.lt
     replace hT := hT.below b2 hT.lt
     replace hR := hR.below b2 hR.lt
     replace hB := hB.trans (b2.mono hB.size)
     clear c0 c1 c2 c3 c4 c5 c6 c7
     obtain ⟨c8, c9, c10⟩ := hX.q3
     obtain ⟨c11, c12, c13⟩ := hT.q3
     obtain ⟨c14, c15⟩ := hR.q2
     go_wp2_with fail
     refine (hD _ _ h1 hn).mono ?_
     rintro e w4 ⟨v2, v3, rfl, h2, h3, b4⟩
     replace hn := hn.below b4
     replace hX := hX.below b4 hX.lt
     replace hT := hT.below b4 hT.lt
     replace hR := hR.below b4 hR.lt
     replace h1 := h1.below b4
     replace hB := hB.trans (b4.mono hB.size)
     clear c8 c9 c10 c11 c12 c13 c14 c15
     obtain ⟨c16, c17, c18⟩ := hX.q3
     obtain ⟨c19, c20, c21⟩ := hT.q3
     obtain ⟨c22, c23⟩ := hR.q2
     obtain ⟨A2, L2, C2, rfl, h2⟩ := h2.opn
     obtain ⟨A3, L3, C3, rfl, hL3⟩ := h3.pos HR.out
     have hL3i : (0 : Int) < (L3 : Int) := by omega
     clear h3
     go_wp2_with fail
     refine (hC _ _ _ _ hX).mono ?_
     rintro e w6 ⟨rfl, rfl⟩
     go_wp2_with fail
     refine (hO _).mono ?_
     rintro e w7 ⟨v4, rfl, h4, b7⟩
     replace hX := hX.below b7 hX.lt
     replace hT := hT.below b7 hT.lt
     replace hR := hR.below b7 hR.lt
     replace h2 := h2.below b7
     replace hB := hB.trans (b7.mono hB.size)
     clear c16 c17 c18 c19 c20 c21 c22 c23
     obtain ⟨c24, c25, c26⟩ := hX.q3
     obtain ⟨c27, c28, c29⟩ := hT.q3
     obtain ⟨c30, c31⟩ := hR.q2
     go_wp2_with fail
     refine (hA _ _ _ h2 h4).mono ?_
     rintro e w9 ⟨v5, rfl, h5, b9⟩
     replace hX := hX.below b9 hX.lt
     replace hT := hT.below b9 hT.lt
     replace hR := hR.below b9 hR.lt
     replace h2 := h2.below b9
     replace h4 := h4.below b9
     replace hB := hB.trans (b9.mono hB.size)
     clear c24 c25 c26 c27 c28 c29 c30 c31
     obtain ⟨c32, c33, c34⟩ := hX.q3
     obtain ⟨c35, c36, c37⟩ := hT.q3
     obtain ⟨c38, c39⟩ := hR.q2
     obtain ⟨A6, L6, C6, e6, hL6⟩ := h5.pos HQ.out
     subst e6
     have hL6i : (0 : Int) < (L6 : Int) := by omega
     obtain ⟨p1, p2, p3⟩ := put2 hR (.bool true) (.slice A6 L6 C6) (by simp [noU]) hB (by omega)
     have rc0 : World.cell? _ ⟨g + 1, 0, none⟩ = some (.bool false) := hR.cell 0
     have rf0 := hR.frozen 0
     have rc1 : World.cell? _ ⟨g + 1, 1, none⟩ = some (.slice none 0 0) := hR.cell 1
     have rf1 := hR.frozen 1
     have P := Lib.hid (And.intro (show IsZ _ (.agg #[.bool true, .slice A6 L6 C6]) z from ⟨_, by rw [show decide (z < 0) = true from HZ.out.1], by rw [HZ.out.2]; exact p2 _ _ h5⟩) (And.intro p3 p1.cells2))
     clear p1 p2 p3
     go_wp2_with fail
     obtain ⟨P1, P2, P3, P4⟩ := P.out
     exact bodyPost_ret (v := .tuple #[.agg #[.bool true, .slice A6 L6 C6], .int .i64 0]) (by simp [results, Tryz.results128, go_sem, P3, P4]) rfl ⟨_, rfl, P1, P2⟩
set_option maxRecDepth 100000 in
set_option maxHeartbeats 4000000 in
theorem pfloor_any (v : Value) (a : Rat) (k : Nat) (w : World) (h : IsQ w v a) (hk : k ≤ 2000) (sa : BQ a 10000) :
   Calls Tryz.prog 154 #[v, .int .i64 k] w fun e w' => ∃ v', e = .returned (.tuple #[v', .int .i64 0]) ∧ IsZ w' v' (flr a k) ∧ Below w.heap.size w w' := by
 have hK := fun X v w h hX => prounded_floor v a k X w h hk sa hX
 generalize flr a k = z at *
 obtain ⟨s, A, L, C, D, M, E, rfl, hq⟩ := h.opn
 have es := hq.parts.1
 rw [← es] at hK
 clear es h sa
 obtain ⟨g, hg⟩ : ∃ g, g = w.heap.size := ⟨_, rfl⟩
 obtain ⟨Y0, eY0, hT, bY0⟩ := box1 w 32 #[.bool s, .slice A L C, .slice D M E]
 have zY0 : Y0.heap.size = g + 1 := by rw [eY0, World.size_alloc, ← hg]
 rw [← hg] at hT
 replace hq := hq.below bY0
 have hB := bY0
 obtain ⟨Y1, eY1, hR, bY1⟩ := box1 Y0 30 #[.bool false, .slice none 0 0]
 have zY1 : Y1.heap.size = g + 1 + 1 := by rw [eY1, World.size_alloc, zY0]
 rw [zY0] at hR
 replace hT := hT.below bY1 hT.lt
 replace hq := hq.below bY1
 replace hB := hB.trans (bY1.mono hB.size)
 have hgw : w.heap.size ≤ g := by omega
 have EY := Lib.hid (And.intro hg (And.intro eY0 eY1))
 clear hg eY0 zY0 eY1 zY1
 obtain ⟨c0, c1, c2⟩ := hT.q3
 obtain ⟨c3, c4⟩ := hR.q2
 go_enter Tryz.func154, Tryz.ntmps154
 go_wp2_with fail
 rw [← EY.out.2.1, ← EY.out.2.2, ← EY.out.1]
 refine (hK _ _ _ hq ⟨_, _, hT⟩).mono ?_
 rintro e w2 ⟨v1, rfl, h1, b2⟩
 replace hq := hq.below b2
 replace hT := hT.below b2 hT.lt
 replace hR := hR.below b2 hR.lt
 replace hB := hB.trans (b2.mono hB.size)
 clear c0 c1 c2 c3 c4
 obtain ⟨c5, c6, c7⟩ := hT.q3
 obtain ⟨c8, c9⟩ := hR.q2
 obtain ⟨s1, A1, L1, C1, rfl, h1⟩ := h1.opn
 obtain ⟨p1, p2, p3⟩ := put2 hR (.bool s1) (.slice A1 L1 C1) (by simp [noU]) hB (by omega)
 have rc0 : World.cell? _ ⟨g + 1, 0, none⟩ = some (.bool false) := hR.cell 0
 have rf0 := hR.frozen 0
 have rc1 : World.cell? _ ⟨g + 1, 1, none⟩ = some (.slice none 0 0) := hR.cell 1
 have rf1 := hR.frozen 1
 have P := Lib.hid (And.intro (h1.kept p2) (And.intro p3 p1.cells2))
 clear p1 p2 p3
 go_wp2_with fail
 obtain ⟨P1, P2, P3, P4⟩ := P.out
 exact bodyPost_ret (v := .tuple #[.agg #[.bool s1, .slice A1 L1 C1], .int .i64 0]) (by simp [results, Tryz.results154, go_sem, P3, P4]) rfl ⟨_, rfl, P1, P2⟩
set_option maxHeartbeats 2000000 in
theorem prcmp_any (va vb : Value) (a b : Rat) (w : World) (ha : IsQ w va a) (hb : IsQ w vb b) (sa : BQ a 10000) (sb : BQ b 10000) :
   Calls Tryz.prog 191 #[va, vb] w fun e w' => e = .returned (.int .i64 (cmpQ a b)) ∧ Below w.heap.size w w' := by
 obtain ⟨pa, qa, rfl, hpa, hqa⟩ := ha
 have hza : IsZ w (.agg #[.bool (decide (a.num < 0)), pa]) a.num := ⟨_, rfl, hpa⟩
 obtain ⟨pb, qb, rfl, hpb, hqb⟩ := hb
 have hzb : IsZ w (.agg #[.bool (decide (b.num < 0)), pb]) b.num := ⟨_, rfl, hpb⟩
 have hO1 := fun w hp hq => prtimes_any (.agg #[.bool (decide (a.num < 0)), pa]) qb a.num b.den w hp hq (sa.1.more (by omega)) (sb.2.more (by omega))
 have hO2 := fun w hp hq => prtimes_any (.agg #[.bool (decide (b.num < 0)), pb]) qa b.num a.den w hp hq (sb.1.more (by omega)) (sa.2.more (by omega))
 have hC := fun u v w hu hv => pzcmp_any u v (a.num * b.den) (b.num * a.den) w hu hv
 rw [show cmpQ a b = cmpI (a.num * b.den) (b.num * a.den) from rfl]
 generalize cmpI (a.num * b.den) (b.num * a.den) = c at *
 generalize a.num * (b.den : Int) = m1 at *
 generalize b.num * (a.den : Int) = m2 at *
 generalize a.num = na at *
 generalize b.num = nb at *
 clear hpa hpb sa sb
 generalize decide (na < 0) = sa at *
 generalize decide (nb < 0) = sb at *
 obtain ⟨W0, hW, hT, hB⟩ := box2 w 32 32 #[.bool sa, pa, qa] #[.bool sb, pb, qb]
 obtain ⟨g, hg⟩ : ∃ g, g = w.heap.size := ⟨_, rfl⟩
 have hW' := Lib.hid (And.intro hW hg)
 rw [← hg] at hT
 clear hW hg
 have hza := hza.below hB
 have hzb := hzb.below hB
 have hqa := hqa.below hB
 have hqb := hqb.below hB
 go_enter Tryz.func191, Tryz.ntmps191
 go_wp2
 rw [← hW'.out.1, ← hW'.out.2]
 go_region_held3 (fun w' => w'.cell? ⟨g, 0, none⟩ = some (.bool sa) ∧ w'.cell? ⟨g, 1, none⟩ = some pa ∧ w'.cell? ⟨g, 2, none⟩ = some qa ∧ w'.cell? ⟨g + 1, 0, none⟩ = some (.bool sb) ∧ w'.cell? ⟨g + 1, 1, none⟩ = some pb ∧ w'.cell? ⟨g + 1, 2, none⟩ = some qb) (exact Two.cells33 (hT.below (by first | assumption | exact balloc (by assumption) _ | exact bdrew _ | exact balloc (bdrew _) _) hT.lt))
   (first
     | (go_at_call 183; (with_reducible refine (hO1 _ ?_ ?_).mono ?_); exact hza.below (by first | assumption | exact balloc (by assumption) _ | exact bdrew _ | exact balloc (bdrew _) _); exact hqb.below (by first | assumption | exact balloc (by assumption) _ | exact bdrew _ | exact balloc (bdrew _) _); rintro x w1 ⟨v1, rfl, h1, b1⟩; have B1 := bstep (by first | assumption | exact balloc (by assumption) _ | exact bdrew _ | exact balloc (bdrew _) _) b1)
     | (go_at_call 183; (with_reducible refine (hO2 _ ?_ ?_).mono ?_); exact hzb.below (by first | assumption | exact balloc (by assumption) _ | exact bdrew _ | exact balloc (bdrew _) _); exact hqa.below (by first | assumption | exact balloc (by assumption) _ | exact bdrew _ | exact balloc (bdrew _) _); rintro x w2 ⟨v2, rfl, h2, b2⟩; have B2 := bstep (by first | assumption | exact balloc (by assumption) _ | exact bdrew _ | exact balloc (bdrew _) _) b2; have h1 := h1.below (by first | exact b2 | exact bstep (balloc (Below.refl _ _) _) b2))
     | (go_at_call 210; (with_reducible refine (hC _ _ _ ?_ ?_).mono ?_); exact h1.below (by first | exact Below.refl _ _ | exact balloc (Below.refl _ _) _); exact h2.below (by first | exact Below.refl _ _ | exact balloc (Below.refl _ _) _); rintro x w3 ⟨rfl, b3⟩; have B3 := bstep (by first | assumption | exact balloc (by assumption) _ | exact bdrew _ | exact balloc (bdrew _) _) b3))
 go_wp2
 go_ret
 exact ⟨rfl, hB.trans (B3.mono hB.size)⟩
end Go.Proofs.YtdnjdglekifhpaaGreat
namespace Go.Proofs.YtdnjdglekifhpaaGreat
def I64 (a : Int) : Prop := -9223372036854775808 ≤ a ∧ a ≤ 9223372036854775807
end Go.Proofs.YtdnjdglekifhpaaGreat

namespace Go.Proofs.YtdnjdglekifhpaaGreat
open Go.ChangeShapes Go.WideShapes Go.ChangeAt Go.RowKit
section
variable {H : Type} {enc : TypeId × Value → H} {P : Program}
theorem post_of_below {f : Func} {s : ChangeSpec} {apart fresh handsOn again : Bool} {W W' : World} {args : Array Value} {v : Value} {ds gs : List (DataW H)} {before pa pv : List MemPlace}
   (hW : DataW.Whole enc P f.params.toList s.vars apart W args.toList ds gs before)
   (hres : ∀ (b : Nat) (sp : Nat → Bool) (hd : Bool), DataW.TrodAll enc P W' b sp hd f.resultTypes.toList (v.resultList f.resultTypes.size) (s.fn H (ds ++ gs)).results [])
   (hargs : ∀ sp : Nat → Bool, (∀ p ∈ before, sp p.block = true) → DataW.TrodAll enc P W' 0 sp true f.params.toList args.toList (s.fn H (ds ++ gs)).args pa)
   (hvars : ∀ sp : Nat → Bool, (∀ p ∈ before, sp p.block = true) → DataW.TrodVars enc P W' sp s.vars (s.fn H (ds ++ gs)).vars pv)
   (hps : before = pa ++ pv) (hb : Below W.heap.size W W')
   (hok : ∀ (j : Nat) (t : TypeId) (r : Value), f.resultTypes[j]? = some t → (v.resultList f.resultTypes.size)[j]? = some r → Value.okWide P W' .any 0 t r) :
   s.post enc P f apart fresh handsOn again W args v W' := by
 have hlt : ∀ p ∈ before, p.block < W.heap.size := fun p hp => hW.lt p hp
 have hold : ∀ p ∈ before, (fun b => decide (b < W.heap.size)) p.block = true := fun p hp => by simpa using hlt p hp
 refine ⟨ds, gs, before, [], pa, pv, hW, hres _ _ _, hargs _ hold, hvars _ hold, World.keptBut_mono (fun p hp => ⟨hp, ?_⟩) (hb.frame (· ∈ before)), fun _ => ?_⟩
 · rw [hps, List.mem_append] at hp
   exact Or.inr hp
 · obtain ⟨_, _, _, _, _, hz, hn⟩ := hW
   refine ⟨hok, _, _, ([] ++ pa) ++ pv, ⟨[] ++ pa, pv, trodAll_append (hargs _ (fun _ _ => rfl)) (hres _ _ _), hvars _ (fun _ _ => rfl), rfl, ?_, ?_⟩, ?_⟩
   · intro b off hp
     have hin : MemPlace.cell b off ∈ before := by rw [hps]; simpa using hp
     rw [hb.frozen (hlt _ hin)]
     exact hz b off hin
   · intro ha
     have := hn ha
     rw [hps] at this
     simpa using this
   · intro p hp _
     rw [hps]
     simpa using hp
theorem below_trodAll (hl : laidOutB P = true) {W W' : World} (hb : Below W.heap.size W W') (sp : Nat → Bool) : ∀ {ts : List TypeId} {vs : List Value} {ds : List (DataW H)} {ps : List MemPlace},
   (∀ t ∈ ts, P.readableRec t = true ∧ t < P.types.size) → DataW.TrodAll enc P W 0 (fun _ => true) true ts vs ds ps → (∀ x ∈ ps, x.block < W.heap.size) → (∀ x ∈ ps, sp x.block = true) →
   DataW.TrodAll enc P W' 0 sp true ts vs ds ps := by
 intro ts
 induction ts with
 | nil => intro vs ds ps _ h _ _; obtain ⟨rfl, rfl, rfl⟩ := trodAll_nil h; rfl
 | cons t ts ih =>
   intro vs ds ps hr h hlt hsp
   obtain ⟨v, vs', d, ds', p, q, rfl, rfl, rfl, h1, h2⟩ := trodAll_cons h
   obtain ⟨k1, k2⟩ := hr t (List.mem_cons_self ..)
   exact ⟨p, q, WideElems.Trod_stays hl k1 k2 h1 (fun x hx => hb.same (hlt x (List.mem_append_left _ hx))) (fun x hx => hsp x (List.mem_append_left _ hx)), ih (fun t' ht => hr t' (List.mem_cons_of_mem _ ht)) h2 (fun x hx => hlt x (List.mem_append_right _ hx)) (fun x hx => hsp x (List.mem_append_right _ hx)), rfl⟩
theorem trodAll_len {w : World} {b : Nat} {sp : Nat → Bool} {hd : Bool} : ∀ {ts : List TypeId} {vs : List Value} {ds : List (DataW H)} {ps : List MemPlace}, DataW.TrodAll enc P w b sp hd ts vs ds ps → ds.length = ts.length := by
 intro ts
 induction ts with
 | nil => intro vs ds ps h; obtain ⟨rfl, rfl, rfl⟩ := trodAll_nil h; rfl
 | cons t ts ih =>
   intro vs ds ps h
   obtain ⟨v, vs', d, ds', p, q, rfl, rfl, rfl, h1, h2⟩ := trodAll_cons h
   simp [ih h2]
end
theorem Tryz.own : ownKnob Tryz.prog.godebug = none := by kernel_rfl
theorem Tryz.laidOut : laidOutB Tryz.prog = true := by kernel_rfl
def LawWalk (f : FuncId) (fn : Func) : Prop :=
 ∀ (W : World) (base : Nat) (args : Array Value) (H : Type) (enc : TypeId × Value → H) (ds : List (DataW H)) (p : List MemPlace),
   (∀ (j : Nat) t v, fn.params[j]? = some t → args[j]? = some v → Value.okWide Tryz.prog W .any base t v) →
   DataW.TrodAll enc Tryz.prog W 0 (fun _ => true) true fn.params.toList args.toList ds p → (∀ x ∈ p, x.block < W.heap.size) →
   (DataW.weightsEach Tryz.prog fn.params.toList ds).all (· ≤ reachBytes) = true →
   Calls Tryz.prog f args W fun e W' => e = .returned (.bool true) ∧ Below W.heap.size W W'
set_option maxRecDepth 100000 in
theorem law_lifted (f : FuncId) (fn : Func) (s : ChangeSpec) (conds : List PathCond) (_ : conds = []) (hvars : s.vars = []) (hres : fn.resultTypes = #[4])
   (hfn : Tryz.prog.funcs[f]? = some fn) (noInit : Tryz.checked.prog.inits.idxOf? f = none) (hread : ∀ t ∈ fn.params.toList, Tryz.prog.readableRec t = true ∧ t < Tryz.prog.types.size)
   (hs : ∀ (H : Type) (ds : List (DataW H)), ds.length = fn.params.toList.length → (s.fn H ds).results = [.lit (.bool true)] ∧ (s.fn H ds).args = ds ∧ (s.fn H ds).vars = [])
   (wit : ∀ (os : Os), os.Started → ∀ (H : Type) (enc : TypeId × Value → H), ∃ (w : World) (tape : Tape) (i : Input), w.os = os ∧ (w.forCall tape i).Shaped Tryz.checked.prog ∧ i.vars = [] ∧ Input.okWide Tryz.checked.prog (w.forCall tape i) .any w.heap.size f i ∧
     s.pre6 enc Tryz.checked.prog fn conds false (w.forCall tape i).memory i.args ∧ ({} : Assume).holds Tryz.checked.prog (lone (Frame.enter Tryz.checked.prog f i.args .normal) [] (w.forCall tape i)))
   (walk : LawWalk f fn) (os : Os) (started : os.Started) (H : Type) (enc : TypeId × Value → H) :
   ReturnsInHanded {} Tryz.checked os f .any (s.pre6 enc Tryz.prog fn conds false) (s.post enc Tryz.prog fn false true false false) := by
 refine returnsInHanded_of_change_sized (C := Tryz.checked) Tryz.own started noInit hfn (wit os started H enc) ?_
 intro W base args ds gs before hval hW _ hsz _
 have hW' := hW
 obtain ⟨p, q, hA, hV, rfl, _, _⟩ := hW
 rw [hvars] at hV
 obtain ⟨rfl, rfl⟩ := trodVars_none hV
 have hlt : ∀ x ∈ p, x.block < W.heap.size := fun x hx => hW'.lt x (by simpa using hx)
 have hlen : ds.length = fn.params.toList.length := trodAll_len hA
 obtain ⟨e1, e2, e3⟩ := hs H ds hlen
 have hsz' : (DataW.weightsEach Tryz.prog fn.params.toList ds).all (· ≤ reachBytes) = true := by
   have hv : s.plain.varTypes Tryz.checked.prog = [] := by simp [ChangeSpec.plain, hvars, DataSpec.varTypes]
   rw [hv, List.append_nil, List.append_nil] at hsz
   exact hsz
 refine (walk W base args H enc ds p hval hA hlt hsz').mono fun e W' ⟨he, hb⟩ => ?_
 subst he
 refine ⟨_, rfl, post_of_below (pa := p) (pv := []) hW' (fun _ _ _ => ?_) (fun sp hsp => ?_) (fun _ _ => ?_) rfl hb ?_⟩
 · rw [hres, List.append_nil, e1]
   exact trodAll_mk1 (shut_bool Tryz.underlying4 true)
 · rw [List.append_nil, e2]
   exact below_trodAll Tryz.laidOut hb sp hread hA hlt (fun x hx => hsp x (by simpa using hx))
 · rw [hvars, List.append_nil, e3]; rfl
 · exact ok_one hres rfl (okWide_bool_mk Tryz.underlying4 true)
end Go.Proofs.YtdnjdglekifhpaaGreat
namespace Go.Proofs.YtdnjdglekifhpaaGreat
open Go.ChangeShapes Go.WideShapes Go.ChangeAt Go.RowKit
theorem wf_u64 {n : Int} (h : (Lit.int .u64 n).wf = true) : 0 ≤ n ∧ n < (W64 : Int) := by
 have h1 : IntKind.u64.min = 0 := rfl
 have h2 : IntKind.u64.max = 18446744073709551615 := rfl
 simp only [Lit.wf, Bool.and_eq_true, decide_eq_true_eq] at h
 unfold W64
 omega
end Go.Proofs.YtdnjdglekifhpaaGreat
namespace Go.Proofs.YtdnjdglekifhpaaGreat
open Go.ChangeShapes Go.WideShapes Go.ChangeAt Go.RowKit
theorem wf_I64 {n : Int} (h : (Lit.int .i64 n).wf = true) : I64 n := by
 have h1 : IntKind.i64.min = -9223372036854775808 := rfl
 have h2 : IntKind.i64.max = 9223372036854775807 := rfl
 simp only [Lit.wf, Bool.and_eq_true, decide_eq_true_eq] at h
 unfold I64
 omega
end Go.Proofs.YtdnjdglekifhpaaGreat
namespace Go.Proofs.YtdnjdglekifhpaaGreat
open Go.ChangeShapes Go.WideShapes Go.ChangeAt Go.RowKit Go.Joins Go.Deep
section
variable {H : Type} {enc : TypeId × Value → H} {W : World}
theorem cells_intk : Tryz.prog.cellsOf 3 = 1 := by kernel_rfl
theorem cells_i64k : Tryz.prog.cellsOf 2 = 1 := by kernel_rfl
end
end Go.Proofs.YtdnjdglekifhpaaGreat
namespace Go.Proofs.YtdnjdglekifhpaaGreat
open Go.RowKit
attribute [local go_sem ↓] Go.wp_at_zero Go.wp_at_succ
def divQ (a b : Rat) : Rat := mkRat (a.num * sided (decide (b.num < 0)) b.den) (a.den * b.num.natAbs)
set_option maxHeartbeats 1000000 in
theorem rzright_any (b : Bool) (nv : Value) (l : List Nat) (w : World) (h : IsL w nv l) :
   Calls Tryz.prog 114 #[.agg #[.bool b, nv]] w fun e w' => e = .returned (.bool (rightZ b l)) ∧ Below w.heap.size w w' := by
 unfold rightZ
 have hS := fun w hn => rright_any nv l w hn
 obtain ⟨W0, hW, hR, hB⟩ := box1 w 30 #[.bool b, nv]
 obtain ⟨g, hg⟩ : ∃ g, g = w.heap.size := ⟨_, rfl⟩
 have hW' := Lib.hid (And.intro hW hg)
 rw [← hg] at hR
 clear hW hg
 have hn := h.below hB
 have HB := Lib.hid hB
 obtain ⟨A, c, rfl, _⟩ := id h
 obtain ⟨q0, q1⟩ := hR.cells2
 generalize decide (l = [] ∨ lat l (l.length - 1) ≠ 0) = r at *
 obtain ⟨d, hd⟩ : ∃ d, d = decide (l.length = 0) := ⟨_, rfl⟩
 rw [← hd]
 have hl0 : decide ((0 : Int) < (l.length : Int)) = !d := by
   rw [hd]
   rcases Nat.eq_zero_or_pos l.length with h9 | h9
   · rw [decide_eq_false (by omega), decide_eq_true h9]; rfl
   · rw [decide_eq_true (by omega), decide_eq_false (by omega)]; rfl
 have hl1 : decide (0 < l.length) = !d := by
   rw [hd]
   rcases Nat.eq_zero_or_pos l.length with h9 | h9
   · rw [decide_eq_false (by omega), decide_eq_true h9]; rfl
   · rw [decide_eq_true h9, decide_eq_false (by omega)]; rfl
 clear h hd
 cases r <;> cases b <;> cases d
 all_goals
   go_enter Tryz.func114, Tryz.ntmps114
   go_wp2_with fail
   rw [← hW'.out.1, ← hW'.out.2]
   refine (hS _ hn).mono ?_
   rintro e w1 ⟨rfl, rfl⟩
   go_wp2
   go_ret
   exact ⟨rfl, HB.out⟩
set_option maxRecDepth 100000 in
set_option maxHeartbeats 8000000 in
theorem rshas_t (v u : Value) (a b x : Rat) (w : World) (h : IsS w v a b) (hx : IsQ w u x) (sa : BQ a 10000) (sb : BQ b 10000) (sx : BQ x 10000) (hz : cmpQ a x ≤ 0) :
   Calls Tryz.prog 30 #[v, u] w fun e w' => e = .returned (.bool (decide (cmpQ x b ≤ 0))) ∧ Below w.heap.size w w' := by
 have hC1 := fun u v w h1 h2 => rqcmp_any u v a x w h1 h2 sa sx
 have hC2 := fun u v w h1 h2 => rqcmp_any u v x b w h1 h2 sx sb
 generalize cmpQ a x = c1 at *
 generalize cmpQ x b = c2 at *
 obtain ⟨s1, A1, L1, C1, D1, M1, E1, s2, A2, L2, C2, D2, M2, E2, rfl, q1, q2⟩ := h.opn
 obtain ⟨s3, A3, L3, C3, D3, M3, E3, rfl, q3⟩ := hx.opn
 have hd1 : decide (c1 ≤ 0) = true := decide_eq_true hz
 clear h hx sa sb sx
 obtain ⟨g, hg⟩ : ∃ g, g = w.heap.size := ⟨_, rfl⟩
 obtain ⟨Y0, eY0, hA, bY0⟩ := box1 w 46 #[.bool s1, .slice A1 L1 C1, .slice D1 M1 E1, .bool s2, .slice A2 L2 C2, .slice D2 M2 E2]
 have zY0 : Y0.heap.size = g + 1 := by rw [eY0, World.size_alloc, ← hg]
 rw [← hg] at hA
 replace q1 := q1.below bY0
 replace q2 := q2.below bY0
 replace q3 := q3.below bY0
 have hB := bY0
 obtain ⟨Y1, eY1, hC, bY1⟩ := box1 Y0 32 #[.bool s3, .slice A3 L3 C3, .slice D3 M3 E3]
 have zY1 : Y1.heap.size = g + 1 + 1 := by rw [eY1, World.size_alloc, zY0]
 rw [zY0] at hC
 replace hA := hA.below bY1 hA.lt
 replace q1 := q1.below bY1
 replace q2 := q2.below bY1
 replace q3 := q3.below bY1
 replace hB := hB.trans (bY1.mono hB.size)
 have hgw : w.heap.size ≤ g := by omega
 have EY := Lib.hid (And.intro hg (And.intro eY0 eY1))
 clear hg eY0 zY0 eY1 zY1
 obtain ⟨c0, c1, c2, c3, c4, c5⟩ := hA.q6
 obtain ⟨c6, c7, c8⟩ := hC.q3
 go_enter Tryz.func30, Tryz.ntmps30
 go_wp2_with fail
 rw [← EY.out.2.1, ← EY.out.2.2, ← EY.out.1]
 refine (hC1 _ _ _ q1 q3).mono ?_
 rintro e w2 ⟨rfl, b2⟩
 replace q1 := q1.below b2
 replace q2 := q2.below b2
 replace q3 := q3.below b2
 replace hA := hA.below b2 hA.lt
 replace hC := hC.below b2 hC.lt
 replace hB := hB.trans (b2.mono hB.size)
 clear c0 c1 c2 c3 c4 c5 c6 c7 c8
 obtain ⟨c9, c10, c11, c12, c13, c14⟩ := hA.q6
 obtain ⟨c15, c16, c17⟩ := hC.q3
 go_wp2_with fail
 refine (hC2 _ _ _ q3 q2).mono ?_
 rintro e w4 ⟨rfl, b4⟩
 replace q1 := q1.below b4
 replace q2 := q2.below b4
 replace q3 := q3.below b4
 replace hA := hA.below b4 hA.lt
 replace hC := hC.below b4 hC.lt
 replace hB := hB.trans (b4.mono hB.size)
 clear c9 c10 c11 c12 c13 c14 c15 c16 c17
 obtain ⟨c18, c19, c20, c21, c22, c23⟩ := hA.q6
 obtain ⟨c24, c25, c26⟩ := hC.q3
 go_wp2
 go_ret
 exact ⟨rfl, hB⟩
set_option maxRecDepth 100000 in
set_option maxHeartbeats 8000000 in
theorem rshas_f (v u : Value) (a b x : Rat) (w : World) (h : IsS w v a b) (hx : IsQ w u x) (sa : BQ a 10000) (sb : BQ b 10000) (sx : BQ x 10000) (hz : ¬ cmpQ a x ≤ 0) :
   Calls Tryz.prog 30 #[v, u] w fun e w' => e = .returned (.bool false) ∧ Below w.heap.size w w' := by
 have hC1 := fun u v w h1 h2 => rqcmp_any u v a x w h1 h2 sa sx
 have hC2 := fun u v w h1 h2 => rqcmp_any u v x b w h1 h2 sx sb
 generalize cmpQ a x = c1 at *
 generalize cmpQ x b = c2 at *
 obtain ⟨s1, A1, L1, C1, D1, M1, E1, s2, A2, L2, C2, D2, M2, E2, rfl, q1, q2⟩ := h.opn
 obtain ⟨s3, A3, L3, C3, D3, M3, E3, rfl, q3⟩ := hx.opn
 have hd1 : decide (c1 ≤ 0) = false := decide_eq_false hz
 clear h hx sa sb sx
 obtain ⟨g, hg⟩ : ∃ g, g = w.heap.size := ⟨_, rfl⟩
 obtain ⟨Y0, eY0, hA, bY0⟩ := box1 w 46 #[.bool s1, .slice A1 L1 C1, .slice D1 M1 E1, .bool s2, .slice A2 L2 C2, .slice D2 M2 E2]
 have zY0 : Y0.heap.size = g + 1 := by rw [eY0, World.size_alloc, ← hg]
 rw [← hg] at hA
 replace q1 := q1.below bY0
 replace q2 := q2.below bY0
 replace q3 := q3.below bY0
 have hB := bY0
 obtain ⟨Y1, eY1, hC, bY1⟩ := box1 Y0 32 #[.bool s3, .slice A3 L3 C3, .slice D3 M3 E3]
 have zY1 : Y1.heap.size = g + 1 + 1 := by rw [eY1, World.size_alloc, zY0]
 rw [zY0] at hC
 replace hA := hA.below bY1 hA.lt
 replace q1 := q1.below bY1
 replace q2 := q2.below bY1
 replace q3 := q3.below bY1
 replace hB := hB.trans (bY1.mono hB.size)
 have hgw : w.heap.size ≤ g := by omega
 have EY := Lib.hid (And.intro hg (And.intro eY0 eY1))
 clear hg eY0 zY0 eY1 zY1
 obtain ⟨c0, c1, c2, c3, c4, c5⟩ := hA.q6
 obtain ⟨c6, c7, c8⟩ := hC.q3
 go_enter Tryz.func30, Tryz.ntmps30
 go_wp2_with fail
 rw [← EY.out.2.1, ← EY.out.2.2, ← EY.out.1]
 refine (hC1 _ _ _ q1 q3).mono ?_
 rintro e w2 ⟨rfl, b2⟩
 replace q1 := q1.below b2
 replace q2 := q2.below b2
 replace q3 := q3.below b2
 replace hA := hA.below b2 hA.lt
 replace hC := hC.below b2 hC.lt
 replace hB := hB.trans (b2.mono hB.size)
 clear c0 c1 c2 c3 c4 c5 c6 c7 c8
 obtain ⟨c9, c10, c11, c12, c13, c14⟩ := hA.q6
 obtain ⟨c15, c16, c17⟩ := hC.q3
 go_wp2
 go_ret
 exact ⟨rfl, hB⟩
theorem rshas_any (v u : Value) (a b x : Rat) (w : World) (h : IsS w v a b) (hx : IsQ w u x) (sa : BQ a 10000) (sb : BQ b 10000) (sx : BQ x 10000) :
   Calls Tryz.prog 30 #[v, u] w fun e w' => e = .returned (.bool (decide (cmpQ a x ≤ 0) && decide (cmpQ x b ≤ 0))) ∧ Below w.heap.size w w' := by
 by_cases e : cmpQ a x ≤ 0
 · rw [decide_eq_true e, Bool.true_and]; exact rshas_t v u a b x w h hx sa sb sx e
 · rw [decide_eq_false e, Bool.false_and]; exact rshas_f v u a b x w h hx sa sb sx e
theorem sz_flr {a : Rat} {k n : Nat} (h : BQ a n) : Sz (flr a k).natAbs (n + k + 4) := by
 have := sz_cel (k := k) h.neg
 unfold cel at this
 rw [Rat.neg_neg, Int.natAbs_neg] at this
 exact this
set_option maxRecDepth 100000 in
set_option maxHeartbeats 8000000 in
theorem phas_t (v u : Value) (a b x : Rat) (w : World) (h : IsS w v a b) (hx : IsQ w u x) (sa : BQ a 10000) (sb : BQ b 10000) (sx : BQ x 10000) (hz : cmpQ a x ≤ 0) :
   Calls Tryz.prog 144 #[v, u] w fun e w' => e = .returned (.bool (decide (cmpQ x b ≤ 0))) ∧ Below w.heap.size w w' := by
 have hC1 := fun u v w h1 h2 => prcmp_any u v a x w h1 h2 sa sx
 have hC2 := fun u v w h1 h2 => prcmp_any u v x b w h1 h2 sx sb
 generalize cmpQ a x = c1 at *
 generalize cmpQ x b = c2 at *
 obtain ⟨s1, A1, L1, C1, D1, M1, E1, s2, A2, L2, C2, D2, M2, E2, rfl, q1, q2⟩ := h.opn
 obtain ⟨s3, A3, L3, C3, D3, M3, E3, rfl, q3⟩ := hx.opn
 have hd1 : decide (c1 ≤ 0) = true := decide_eq_true hz
 clear h hx sa sb sx
 obtain ⟨g, hg⟩ : ∃ g, g = w.heap.size := ⟨_, rfl⟩
 obtain ⟨Y0, eY0, hA, bY0⟩ := box1 w 46 #[.bool s1, .slice A1 L1 C1, .slice D1 M1 E1, .bool s2, .slice A2 L2 C2, .slice D2 M2 E2]
 have zY0 : Y0.heap.size = g + 1 := by rw [eY0, World.size_alloc, ← hg]
 rw [← hg] at hA
 replace q1 := q1.below bY0
 replace q2 := q2.below bY0
 replace q3 := q3.below bY0
 have hB := bY0
 obtain ⟨Y1, eY1, hC, bY1⟩ := box1 Y0 32 #[.bool s3, .slice A3 L3 C3, .slice D3 M3 E3]
 have zY1 : Y1.heap.size = g + 1 + 1 := by rw [eY1, World.size_alloc, zY0]
 rw [zY0] at hC
 replace hA := hA.below bY1 hA.lt
 replace q1 := q1.below bY1
 replace q2 := q2.below bY1
 replace q3 := q3.below bY1
 replace hB := hB.trans (bY1.mono hB.size)
 have hgw : w.heap.size ≤ g := by omega
 have EY := Lib.hid (And.intro hg (And.intro eY0 eY1))
 clear hg eY0 zY0 eY1 zY1
 obtain ⟨c0, c1, c2, c3, c4, c5⟩ := hA.q6
 obtain ⟨c6, c7, c8⟩ := hC.q3
 go_enter Tryz.func144, Tryz.ntmps144
 go_wp2_with fail
 rw [← EY.out.2.1, ← EY.out.2.2, ← EY.out.1]
 refine (hC1 _ _ _ q1 q3).mono ?_
 rintro e w2 ⟨rfl, b2⟩
 replace q1 := q1.below b2
 replace q2 := q2.below b2
 replace q3 := q3.below b2
 replace hA := hA.below b2 hA.lt
 replace hC := hC.below b2 hC.lt
 replace hB := hB.trans (b2.mono hB.size)
 clear c0 c1 c2 c3 c4 c5 c6 c7 c8
 obtain ⟨c9, c10, c11, c12, c13, c14⟩ := hA.q6
 obtain ⟨c15, c16, c17⟩ := hC.q3
 go_wp2_with fail
 refine (hC2 _ _ _ q3 q2).mono ?_
 rintro e w4 ⟨rfl, b4⟩
 replace q1 := q1.below b4
 replace q2 := q2.below b4
 replace q3 := q3.below b4
 replace hA := hA.below b4 hA.lt
 replace hC := hC.below b4 hC.lt
 replace hB := hB.trans (b4.mono hB.size)
 clear c9 c10 c11 c12 c13 c14 c15 c16 c17
 obtain ⟨c18, c19, c20, c21, c22, c23⟩ := hA.q6
 obtain ⟨c24, c25, c26⟩ := hC.q3
 go_wp2
 go_ret
 exact ⟨rfl, hB⟩
set_option maxRecDepth 100000 in
set_option maxHeartbeats 8000000 in
theorem phas_f (v u : Value) (a b x : Rat) (w : World) (h : IsS w v a b) (hx : IsQ w u x) (sa : BQ a 10000) (sb : BQ b 10000) (sx : BQ x 10000) (hz : ¬ cmpQ a x ≤ 0) :
   Calls Tryz.prog 144 #[v, u] w fun e w' => e = .returned (.bool false) ∧ Below w.heap.size w w' := by
 have hC1 := fun u v w h1 h2 => prcmp_any u v a x w h1 h2 sa sx
 have hC2 := fun u v w h1 h2 => prcmp_any u v x b w h1 h2 sx sb
 generalize cmpQ a x = c1 at *
 generalize cmpQ x b = c2 at *
 obtain ⟨s1, A1, L1, C1, D1, M1, E1, s2, A2, L2, C2, D2, M2, E2, rfl, q1, q2⟩ := h.opn
 obtain ⟨s3, A3, L3, C3, D3, M3, E3, rfl, q3⟩ := hx.opn
 have hd1 : decide (c1 ≤ 0) = false := decide_eq_false hz
 clear h hx sa sb sx
 obtain ⟨g, hg⟩ : ∃ g, g = w.heap.size := ⟨_, rfl⟩
 obtain ⟨Y0, eY0, hA, bY0⟩ := box1 w 46 #[.bool s1, .slice A1 L1 C1, .slice D1 M1 E1, .bool s2, .slice A2 L2 C2, .slice D2 M2 E2]
 have zY0 : Y0.heap.size = g + 1 := by rw [eY0, World.size_alloc, ← hg]
 rw [← hg] at hA
 replace q1 := q1.below bY0
 replace q2 := q2.below bY0
 replace q3 := q3.below bY0
 have hB := bY0
 obtain ⟨Y1, eY1, hC, bY1⟩ := box1 Y0 32 #[.bool s3, .slice A3 L3 C3, .slice D3 M3 E3]
 have zY1 : Y1.heap.size = g + 1 + 1 := by rw [eY1, World.size_alloc, zY0]
 rw [zY0] at hC
 replace hA := hA.below bY1 hA.lt
 replace q1 := q1.below bY1
 replace q2 := q2.below bY1
 replace q3 := q3.below bY1
 replace hB := hB.trans (bY1.mono hB.size)
 have hgw : w.heap.size ≤ g := by omega
 have EY := Lib.hid (And.intro hg (And.intro eY0 eY1))
 clear hg eY0 zY0 eY1 zY1
 obtain ⟨c0, c1, c2, c3, c4, c5⟩ := hA.q6
 obtain ⟨c6, c7, c8⟩ := hC.q3
 go_enter Tryz.func144, Tryz.ntmps144
 go_wp2_with fail
 rw [← EY.out.2.1, ← EY.out.2.2, ← EY.out.1]
 refine (hC1 _ _ _ q1 q3).mono ?_
 rintro e w2 ⟨rfl, b2⟩
 replace q1 := q1.below b2
 replace q2 := q2.below b2
 replace q3 := q3.below b2
 replace hA := hA.below b2 hA.lt
 replace hC := hC.below b2 hC.lt
 replace hB := hB.trans (b2.mono hB.size)
 clear c0 c1 c2 c3 c4 c5 c6 c7 c8
 obtain ⟨c9, c10, c11, c12, c13, c14⟩ := hA.q6
 obtain ⟨c15, c16, c17⟩ := hC.q3
 go_wp2
 go_ret
 exact ⟨rfl, hB⟩
theorem phas_any (v u : Value) (a b x : Rat) (w : World) (h : IsS w v a b) (hx : IsQ w u x) (sa : BQ a 10000) (sb : BQ b 10000) (sx : BQ x 10000) :
   Calls Tryz.prog 144 #[v, u] w fun e w' => e = .returned (.bool (decide (cmpQ a x ≤ 0) && decide (cmpQ x b ≤ 0))) ∧ Below w.heap.size w w' := by
 by_cases e : cmpQ a x ≤ 0
 · rw [decide_eq_true e, Bool.true_and]; exact phas_t v u a b x w h hx sa sb sx e
 · rw [decide_eq_false e, Bool.false_and]; exact phas_f v u a b x w h hx sa sb sx e
set_option maxRecDepth 100000 in
set_option maxHeartbeats 8000000 in
theorem pivof_any (v : Value) (a : Rat) (w : World) (h : IsQ w v a) :
   Calls Tryz.prog 87 #[v] w fun e w' => ∃ v', e = .returned v' ∧ IsS w' v' a a ∧ Below w.heap.size w w' := by
 obtain ⟨s1, A1, L1, C1, D1, M1, E1, rfl, q1⟩ := h.opn
 clear h
 obtain ⟨g, hg⟩ : ∃ g, g = w.heap.size := ⟨_, rfl⟩
 obtain ⟨Y0, eY0, hA, bY0⟩ := box1 w 32 #[.bool s1, .slice A1 L1 C1, .slice D1 M1 E1]
 have zY0 : Y0.heap.size = g + 1 := by rw [eY0, World.size_alloc, ← hg]
 rw [← hg] at hA
 replace q1 := q1.below bY0
 have hB := bY0
 obtain ⟨Y1, eY1, hR, bY1⟩ := box1 Y0 46 #[.bool s1, .slice A1 L1 C1, .slice D1 M1 E1, .bool s1, .slice A1 L1 C1, .slice D1 M1 E1]
 have zY1 : Y1.heap.size = g + 1 + 1 := by rw [eY1, World.size_alloc, zY0]
 rw [zY0] at hR
 replace hA := hA.below bY1 hA.lt
 replace q1 := q1.below bY1
 replace hB := hB.trans (bY1.mono hB.size)
 have hgw : w.heap.size ≤ g := by omega
 have EY := Lib.hid (And.intro hg (And.intro eY0 eY1))
 clear hg eY0 zY0 eY1 zY1
 obtain ⟨c0, c1, c2⟩ := hA.q3
 obtain ⟨c3, c4, c5, c6, c7, c8⟩ := hR.q6
 go_enter Tryz.func87, Tryz.ntmps87
 go_wp2_with fail
 rw [← EY.out.2.1, ← EY.out.2.2, ← EY.out.1]
 exact bodyPost_ret (v := .agg #[.bool s1, .slice A1 L1 C1, .slice D1 M1 E1, .bool s1, .slice A1 L1 C1, .slice D1 M1 E1]) (by simp [results, Tryz.results87, go_sem, c3, c4, c5, c6, c7, c8]) rfl ⟨_, rfl, ⟨_, _, _, _, _, _, rfl, q1, q1⟩, by rw [EY.out.1]; exact hB⟩
set_option maxRecDepth 100000 in
set_option maxHeartbeats 8000000 in
theorem pivadd_any (u v : Value) (a b c d : Rat) (w : World) (h : IsS w u a b) (h' : IsS w v c d) (sa : BQ a 10000) (sb : BQ b 10000) (sc : BQ c 10000) (sd : BQ d 10000) :
   Calls Tryz.prog 86 #[u, v] w fun e w' => ∃ v', e = .returned v' ∧ IsS w' v' (a + c) (b + d) ∧ Below w.heap.size w w' := by
 have hA1 := fun u v w h1 h2 => pradd_any u v a c w h1 h2 sa sc
 have hA2 := fun u v w h1 h2 => pradd_any u v b d w h1 h2 sb sd
 generalize a + c = r1 at *
 generalize b + d = r2 at *
 obtain ⟨s1, A1, L1, C1, D1, M1, E1, s2, A2, L2, C2, D2, M2, E2, rfl, q1, q2⟩ := h.opn
 obtain ⟨s3, A3, L3, C3, D3, M3, E3, s4, A4, L4, C4, D4, M4, E4, rfl, q3, q4⟩ := h'.opn
 clear h h' sa sb sc sd
 obtain ⟨g, hg⟩ : ∃ g, g = w.heap.size := ⟨_, rfl⟩
 obtain ⟨Y0, eY0, hA, bY0⟩ := box1 w 46 #[.bool s1, .slice A1 L1 C1, .slice D1 M1 E1, .bool s2, .slice A2 L2 C2, .slice D2 M2 E2]
 have zY0 : Y0.heap.size = g + 1 := by rw [eY0, World.size_alloc, ← hg]
 rw [← hg] at hA
 replace q1 := q1.below bY0
 replace q2 := q2.below bY0
 replace q3 := q3.below bY0
 replace q4 := q4.below bY0
 have hB := bY0
 obtain ⟨Y1, eY1, hC, bY1⟩ := box1 Y0 46 #[.bool s3, .slice A3 L3 C3, .slice D3 M3 E3, .bool s4, .slice A4 L4 C4, .slice D4 M4 E4]
 have zY1 : Y1.heap.size = g + 1 + 1 := by rw [eY1, World.size_alloc, zY0]
 rw [zY0] at hC
 replace hA := hA.below bY1 hA.lt
 replace q1 := q1.below bY1
 replace q2 := q2.below bY1
 replace q3 := q3.below bY1
 replace q4 := q4.below bY1
 replace hB := hB.trans (bY1.mono hB.size)
 obtain ⟨Y2, eY2, hR, bY2⟩ := box1 Y1 46 #[.bool false, .slice none 0 0, .slice none 0 0, .bool false, .slice none 0 0, .slice none 0 0]
 have zY2 : Y2.heap.size = g + 1 + 1 + 1 := by rw [eY2, World.size_alloc, zY1]
 rw [zY1] at hR
 replace hA := hA.below bY2 hA.lt
 replace hC := hC.below bY2 hC.lt
 replace q1 := q1.below bY2
 replace q2 := q2.below bY2
 replace q3 := q3.below bY2
 replace q4 := q4.below bY2
 replace hB := hB.trans (bY2.mono hB.size)
 have hgw : w.heap.size ≤ g := by omega
 have EY := Lib.hid (And.intro hg (And.intro eY0 (And.intro eY1 eY2)))
 clear hg eY0 zY0 eY1 zY1 eY2 zY2
 obtain ⟨c0, c1, c2, c3, c4, c5⟩ := hA.q6
 obtain ⟨c6, c7, c8, c9, c10, c11⟩ := hC.q6
 obtain ⟨c12, c13, c14, c15, c16, c17⟩ := hR.q6
 go_enter Tryz.func86, Tryz.ntmps86
 go_upto_region 1 with fail
 rw [← EY.out.2.1, ← EY.out.2.2.1, ← EY.out.2.2.2, ← EY.out.1]
 replace hB := hB.drew
 replace q1 := q1.below (bdrew _)
 replace q2 := q2.below (bdrew _)
 replace q3 := q3.below (bdrew _)
 replace q4 := q4.below (bdrew _)
 replace hA := hA.drew
 replace hC := hC.drew
 replace hR := hR.drew
 clear c0 c1 c2 c3 c4 c5 c6 c7 c8 c9 c10 c11 c12 c13 c14 c15 c16 c17
 refine wp_region_noPanic ?_
 refine wp_region_held_drew (S := fun w' => w'.cell? ⟨g, 0, none⟩ = some (.bool s1) ∧ w'.cell? ⟨g, 1, none⟩ = some (.slice A1 L1 C1) ∧ w'.cell? ⟨g, 2, none⟩ = some (.slice D1 M1 E1) ∧ w'.cell? ⟨g, 3, none⟩ = some (.bool s2) ∧ w'.cell? ⟨g, 4, none⟩ = some (.slice A2 L2 C2) ∧ w'.cell? ⟨g, 5, none⟩ = some (.slice D2 M2 E2) ∧ w'.cell? ⟨g + 1, 0, none⟩ = some (.bool s3) ∧ w'.cell? ⟨g + 1, 1, none⟩ = some (.slice A3 L3 C3) ∧ w'.cell? ⟨g + 1, 2, none⟩ = some (.slice D3 M3 E3) ∧ w'.cell? ⟨g + 1, 3, none⟩ = some (.bool s4) ∧ w'.cell? ⟨g + 1, 4, none⟩ = some (.slice A4 L4 C4) ∧ w'.cell? ⟨g + 1, 5, none⟩ = some (.slice D4 M4 E4)) (by kernel_rfl) ?_ (fun hHeld => ?_)
 · exact ⟨hA.cell 0, hA.cell 1, hA.cell 2, hA.cell 3, hA.cell 4, hA.cell 5, hC.cell 0, hC.cell 1, hC.cell 2, hC.cell 3, hC.cell 4, hC.cell 5⟩
 obtain ⟨wd1_1, hwd⟩ : ∃ q, q = Y2.drew := ⟨_, rfl⟩
 rw [← hwd] at hB q1 q2 q3 q4 hA hC hR hHeld ⊢
 clear hwd
 refine tkH 0 rfl (v := ?v1) ?h1 ?r1
 case h1 => intro w hSw; (try dsimp only at hSw); go_simp; try (with_reducible rfl)
 refine tkH 1 rfl (v := ?v2) ?h2 ?r2
 case h2 => intro w hSw; (try dsimp only at hSw); go_simp; try (with_reducible rfl)
 refine tkH 2 rfl (v := ?v3) ?h3 ?r3
 case h3 => intro w hSw; (try dsimp only at hSw); go_simp; try (with_reducible rfl)
 refine tkH 3 rfl (v := ?v4) ?h4 ?r4
 case h4 => intro w hSw; (try dsimp only at hSw); go_simp; try (with_reducible rfl)
 refine tkH 5 rfl (v := ?v5) ?h5 ?r5
 case h5 => intro w hSw; (try dsimp only at hSw); go_simp; try (with_reducible rfl)
 refine tkH 6 rfl (v := ?v6) ?h6 ?r6
 case h6 => intro w hSw; (try dsimp only at hSw); go_simp; try (with_reducible rfl)
 refine tkH 7 rfl (v := ?v7) ?h7 ?r7
 case h7 => intro w hSw; (try dsimp only at hSw); go_simp; try (with_reducible rfl)
 refine tkH 8 rfl (v := ?v8) ?h8 ?r8
 case h8 => intro w hSw; (try dsimp only at hSw); go_simp; try (with_reducible rfl)
 try simp only [Act.put, lay1, lay2, lay3, lay4, lay5, lay6]
 refine rd1 4 rfl fun K hK => ?_
 go_simp
 refine (hA1 _ _ _ q1 q3).mono ?_
 rintro e u1_1 ⟨v5, rfl, q5, b1_1⟩
 replace q1 := q1.below b1_1
 replace q2 := q2.below b1_1
 replace q3 := q3.below b1_1
 replace q4 := q4.below b1_1
 replace hA := hA.below b1_1 hA.lt
 replace hC := hC.below b1_1 hC.lt
 replace hR := hR.below b1_1 hR.lt
 replace hB := hB.trans (b1_1.mono hB.size)
 obtain ⟨s5, A5, L5, C5, D5, M5, E5, rfl, q5⟩ := q5.opn
 go_wp2_with fail
 refine hK.out _ _ ?_ (fun hHeld => ?_)
 · exact ⟨hA.cell 0, hA.cell 1, hA.cell 2, hA.cell 3, hA.cell 4, hA.cell 5, hC.cell 0, hC.cell 1, hC.cell 2, hC.cell 3, hC.cell 4, hC.cell 5⟩
 clear hK K
 try simp only [Act.put, lay1, lay2, lay3, lay4, lay5, lay6]
 refine rd1 9 rfl fun K hK => ?_
 go_simp
 refine (hA2 _ _ _ q2 q4).mono ?_
 rintro e u1_2 ⟨v6, rfl, q6, b1_2⟩
 replace q1 := q1.below b1_2
 replace q2 := q2.below b1_2
 replace q3 := q3.below b1_2
 replace q4 := q4.below b1_2
 replace hA := hA.below b1_2 hA.lt
 replace hC := hC.below b1_2 hC.lt
 replace hR := hR.below b1_2 hR.lt
 replace q5 := q5.below b1_2
 replace hB := hB.trans (b1_2.mono hB.size)
 obtain ⟨s6, A6, L6, C6, D6, M6, E6, rfl, q6⟩ := q6.opn
 go_wp2_with fail
 refine hK.out _ _ ?_ (fun hHeld => ?_)
 · exact ⟨hA.cell 0, hA.cell 1, hA.cell 2, hA.cell 3, hA.cell 4, hA.cell 5, hC.cell 0, hC.cell 1, hC.cell 2, hC.cell 3, hC.cell 4, hC.cell 5⟩
 clear hK K
 refine tkH 10 rfl (v := ?v9) ?h9 ?r9
 case h9 => intro w hSw; (try dsimp only at hSw); go_simp; try (with_reducible rfl)
 try simp only [Act.put, lay1, lay2, lay3, lay4, lay5, lay6]
 refine rd1 11 rfl fun K hK => ?_
 obtain ⟨u1_3, eu, hR', kz, kb, kB⟩ := fill6 hR (.bool s5) (.slice A5 L5 C5) (.slice D5 M5 E5) (.bool s6) (.slice A6 L6 C6) (.slice D6 M6 E6) (by simp [noU])
 have x0 : World.cell? _ ⟨g + 1 + 1, 0, none⟩ = some (.bool false) := hR.cell 0
 have x1 : World.cell? _ ⟨g + 1 + 1, 1, none⟩ = some (.slice none 0 0) := hR.cell 1
 have x2 : World.cell? _ ⟨g + 1 + 1, 2, none⟩ = some (.slice none 0 0) := hR.cell 2
 have x3 : World.cell? _ ⟨g + 1 + 1, 3, none⟩ = some (.bool false) := hR.cell 3
 have x4 : World.cell? _ ⟨g + 1 + 1, 4, none⟩ = some (.slice none 0 0) := hR.cell 4
 have x5 : World.cell? _ ⟨g + 1 + 1, 5, none⟩ = some (.slice none 0 0) := hR.cell 5
 have xf := hR.frozen
 go_simp
 rw [← eu]
 replace q1 := q1.filled kz
 replace q2 := q2.filled kz
 replace q3 := q3.filled kz
 replace q4 := q4.filled kz
 replace hA := kb _ _ _ hA (by omega)
 replace hC := kb _ _ _ hC (by omega)
 replace q5 := q5.filled kz
 replace q6 := q6.filled kz
 replace hB := kB _ _ (by omega) hB
 replace hR := hR'
 clear hR' kz kb kB eu xf x0 x1 x2 x3 x4 x5
 refine hK.out _ _ ?_ (fun hHeld => ?_)
 · exact ⟨hA.cell 0, hA.cell 1, hA.cell 2, hA.cell 3, hA.cell 4, hA.cell 5, hC.cell 0, hC.cell 1, hC.cell 2, hC.cell 3, hC.cell 4, hC.cell 5⟩
 clear hK K
 try simp only [Act.put, lay1, lay2, lay3, lay4, lay5, lay6]
 try dsimp only
 try simp only [Act.put, lay1, lay2, lay3, lay4, lay5, lay6]
 refine wpAnyH_done (by kernel_rfl) ?_ _
 refine NoPanic.normal ?_
 skip
 obtain ⟨c18, c19, c20, c21, c22, c23⟩ := hA.q6
 obtain ⟨c24, c25, c26, c27, c28, c29⟩ := hC.q6
 obtain ⟨c30, c31, c32, c33, c34, c35⟩ := hR.q6
 go_wp2_with fail
 exact bodyPost_ret (v := .agg #[.bool s5, .slice A5 L5 C5, .slice D5 M5 E5, .bool s6, .slice A6 L6 C6, .slice D6 M6 E6]) (by simp [results, Tryz.results86, go_sem, c30, c31, c32, c33, c34, c35]) rfl ⟨_, rfl, ⟨_, _, _, _, _, _, rfl, q5, q6⟩, hB⟩
set_option maxRecDepth 100000 in
set_option maxHeartbeats 8000000 in
theorem pgrid60 (w : World) : Calls Tryz.prog 147 #[.int .i64 60] w fun e w' => e = .returned (.bool true) ∧ w = w' := by
 go_enter Tryz.func147, Tryz.ntmps147
 go_wp2
 go_ret
 exact ⟨rfl, rfl⟩
set_option maxRecDepth 100000 in
set_option maxHeartbeats 8000000 in
theorem pbetween_any (u v : Value) (x y : Int) (w : World) (h : IsZ w u x) (h' : IsZ w v y) (sx : Sz x.natAbs 10000) (sy : Sz y.natAbs 10000) :
   Calls Tryz.prog 153 #[u, v, .int .i64 60] w fun e w' => ∃ v', e = .returned v' ∧ IsS w' v' (mkRat x (2 ^ 60)) (mkRat y (2 ^ 60)) ∧ Below w.heap.size w w' := by
 have hB1 := fun u w h => pdback_any u x 60 (by omega) w h sx
 have hB2 := fun u w h => pdback_any u y 60 (by omega) w h sy
 rw [show ((60 : Nat) : Int) = 60 from rfl] at hB1 hB2
 generalize mkRat x (2 ^ 60) = r1 at *
 generalize mkRat y (2 ^ 60) = r2 at *
 obtain ⟨s1, A1, L1, C1, rfl, z1⟩ := h.opn
 obtain ⟨s2, A2, L2, C2, rfl, z2⟩ := h'.opn
 clear h h' sx sy
 obtain ⟨g, hg⟩ : ∃ g, g = w.heap.size := ⟨_, rfl⟩
 obtain ⟨Y0, eY0, hA, bY0⟩ := box1 w 30 #[.bool s1, .slice A1 L1 C1]
 have zY0 : Y0.heap.size = g + 1 := by rw [eY0, World.size_alloc, ← hg]
 rw [← hg] at hA
 replace z1 := z1.below bY0
 replace z2 := z2.below bY0
 have hB := bY0
 obtain ⟨Y1, eY1, hC, bY1⟩ := box1 Y0 30 #[.bool s2, .slice A2 L2 C2]
 have zY1 : Y1.heap.size = g + 1 + 1 := by rw [eY1, World.size_alloc, zY0]
 rw [zY0] at hC
 replace hA := hA.below bY1 hA.lt
 replace z1 := z1.below bY1
 replace z2 := z2.below bY1
 replace hB := hB.trans (bY1.mono hB.size)
 obtain ⟨Y2, eY2, hR, bY2⟩ := box1 Y1 46 #[.bool false, .slice none 0 0, .slice none 0 0, .bool false, .slice none 0 0, .slice none 0 0]
 have zY2 : Y2.heap.size = g + 1 + 1 + 1 := by rw [eY2, World.size_alloc, zY1]
 rw [zY1] at hR
 replace hA := hA.below bY2 hA.lt
 replace hC := hC.below bY2 hC.lt
 replace z1 := z1.below bY2
 replace z2 := z2.below bY2
 replace hB := hB.trans (bY2.mono hB.size)
 have hgw : w.heap.size ≤ g := by omega
 have EY := Lib.hid (And.intro hg (And.intro eY0 (And.intro eY1 eY2)))
 clear hg eY0 zY0 eY1 zY1 eY2 zY2
 obtain ⟨c0, c1⟩ := hA.q2
 obtain ⟨c2, c3⟩ := hC.q2
 obtain ⟨c4, c5, c6, c7, c8, c9⟩ := hR.q6
 go_enter Tryz.func153, Tryz.ntmps153
 go_wp2_with fail
 rw [← EY.out.2.1, ← EY.out.2.2.1, ← EY.out.2.2.2, ← EY.out.1]
 refine (hB1 _ _ z1).mono ?_
 rintro e w2 ⟨v3, rfl, q3, b2⟩
 replace z1 := z1.below b2
 replace z2 := z2.below b2
 replace hA := hA.below b2 hA.lt
 replace hC := hC.below b2 hC.lt
 replace hR := hR.below b2 hR.lt
 replace hB := hB.trans (b2.mono hB.size)
 clear c0 c1 c2 c3 c4 c5 c6 c7 c8 c9
 obtain ⟨c10, c11⟩ := hA.q2
 obtain ⟨c12, c13⟩ := hC.q2
 obtain ⟨c14, c15, c16, c17, c18, c19⟩ := hR.q6
 obtain ⟨s3, A3, L3, C3, D3, M3, E3, rfl, q3⟩ := q3.opn
 obtain ⟨V4, eV, h3, bV4⟩ := box1 w2 32 #[.bool s3, .slice A3 L3 C3, .slice D3 M3 E3]
 obtain ⟨X4, eX⟩ : ∃ X, X = w2.heap.size := ⟨_, rfl⟩
 rw [← eX] at h3
 have lX4 : w.heap.size ≤ X4 := by rw [eX]; exact hB.size
 have dX4_hA : g ≠ X4 := by have := hA.lt; omega
 have dX4_hC : g + 1 ≠ X4 := by have := hC.lt; omega
 have dX4_hR : g + 1 + 1 ≠ X4 := by have := hR.lt; omega
 have EV4 := Lib.hid (And.intro eV eX)
 clear eV eX
 go_upto_region 2 with fail
 rw [← EV4.out.1, ← EV4.out.2]
 replace z1 := z1.below bV4
 replace z2 := z2.below bV4
 replace hA := hA.below bV4 hA.lt
 replace hC := hC.below bV4 hC.lt
 replace hR := hR.below bV4 hR.lt
 replace q3 := q3.below bV4
 replace hB := hB.trans (bV4.mono hB.size)
 clear c10 c11 c12 c13 c14 c15 c16 c17 c18 c19
 obtain ⟨c20, c21⟩ := hA.q2
 obtain ⟨c22, c23⟩ := hC.q2
 obtain ⟨c24, c25, c26, c27, c28, c29⟩ := hR.q6
 obtain ⟨c30, c31, c32⟩ := h3.q3
 go_wp2_with fail
 refine (hB2 _ _ z2).mono ?_
 rintro e w6 ⟨v4, rfl, q4, b6⟩
 replace z1 := z1.below b6
 replace z2 := z2.below b6
 replace hA := hA.below b6 hA.lt
 replace hC := hC.below b6 hC.lt
 replace hR := hR.below b6 hR.lt
 replace q3 := q3.below b6
 replace h3 := h3.below b6 h3.lt
 replace hB := hB.trans (b6.mono hB.size)
 clear c20 c21 c22 c23 c24 c25 c26 c27 c28 c29 c30 c31 c32
 obtain ⟨c33, c34⟩ := hA.q2
 obtain ⟨c35, c36⟩ := hC.q2
 obtain ⟨c37, c38, c39, c40, c41, c42⟩ := hR.q6
 obtain ⟨c43, c44, c45⟩ := h3.q3
 obtain ⟨s4, A4, L4, C4, D4, M4, E4, rfl, q4⟩ := q4.opn
 obtain ⟨V8, eV, h4, bV8⟩ := box1 w6 32 #[.bool s4, .slice A4 L4 C4, .slice D4 M4 E4]
 obtain ⟨X8, eX⟩ : ∃ X, X = w6.heap.size := ⟨_, rfl⟩
 rw [← eX] at h4
 have lX8 : w.heap.size ≤ X8 := by rw [eX]; exact hB.size
 have dX8_hA : g ≠ X8 := by have := hA.lt; omega
 have dX8_hC : g + 1 ≠ X8 := by have := hC.lt; omega
 have dX8_hR : g + 1 + 1 ≠ X8 := by have := hR.lt; omega
 have dX8_h3 : X4 ≠ X8 := by have := h3.lt; omega
 have EV8 := Lib.hid (And.intro eV eX)
 clear eV eX
 go_upto_region 3 with fail
 rw [← EV8.out.1, ← EV8.out.2]
 replace z1 := z1.below bV8
 replace z2 := z2.below bV8
 replace hA := hA.below bV8 hA.lt
 replace hC := hC.below bV8 hC.lt
 replace hR := hR.below bV8 hR.lt
 replace q3 := q3.below bV8
 replace h3 := h3.below bV8 h3.lt
 replace q4 := q4.below bV8
 replace hB := hB.trans (bV8.mono hB.size)
 clear c33 c34 c35 c36 c37 c38 c39 c40 c41 c42 c43 c44 c45
 obtain ⟨c46, c47⟩ := hA.q2
 obtain ⟨c48, c49⟩ := hC.q2
 obtain ⟨c50, c51, c52, c53, c54, c55⟩ := hR.q6
 obtain ⟨c56, c57, c58⟩ := h3.q3
 obtain ⟨c59, c60, c61⟩ := h4.q3
 obtain ⟨p1, p2, p3⟩ := put6 hR (.bool s3) (.slice A3 L3 C3) (.slice D3 M3 E3) (.bool s4) (.slice A4 L4 C4) (.slice D4 M4 E4) (by simp [noU]) hB (by omega)
 have rc0 : World.cell? _ ⟨g + 1 + 1, 0, none⟩ = some (.bool false) := hR.cell 0
 have rf0 := hR.frozen 0
 have rc1 : World.cell? _ ⟨g + 1 + 1, 1, none⟩ = some (.slice none 0 0) := hR.cell 1
 have rf1 := hR.frozen 1
 have rc2 : World.cell? _ ⟨g + 1 + 1, 2, none⟩ = some (.slice none 0 0) := hR.cell 2
 have rf2 := hR.frozen 2
 have rc3 : World.cell? _ ⟨g + 1 + 1, 3, none⟩ = some (.bool false) := hR.cell 3
 have rf3 := hR.frozen 3
 have rc4 : World.cell? _ ⟨g + 1 + 1, 4, none⟩ = some (.slice none 0 0) := hR.cell 4
 have rf4 := hR.frozen 4
 have rc5 : World.cell? _ ⟨g + 1 + 1, 5, none⟩ = some (.slice none 0 0) := hR.cell 5
 have rf5 := hR.frozen 5
 have P := Lib.hid (And.intro (⟨_, _, _, _, _, _, rfl, q3.kept p2, q4.kept p2⟩ : IsS _ _ r1 r2) (And.intro p3 p1.cells6))
 clear p1 p2 p3
 go_wp2_with fail
 obtain ⟨P1, P2, P3, P4, P5, P6, P7, P8⟩ := P.out
 exact bodyPost_ret (v := .agg #[.bool s3, .slice A3 L3 C3, .slice D3 M3 E3, .bool s4, .slice A4 L4 C4, .slice D4 M4 E4]) (by simp [results, Tryz.results153, go_sem, P3, P4, P5, P6, P7, P8]) rfl ⟨_, rfl, P1, P2⟩
set_option maxRecDepth 100000 in
set_option maxHeartbeats 8000000 in
theorem pout_any (v : Value) (a b : Rat) (w : World) (h : IsS w v a b) (sa : BQ a 5000) (sb : BQ b 5000) :
   Calls Tryz.prog 88 #[v, .int .i64 60] w fun e w' => ∃ v', e = .returned (.tuple #[v', .int .i64 0]) ∧ IsS w' v' (mkRat (flr a 60) (2 ^ 60)) (mkRat (cel b 60) (2 ^ 60)) ∧ Below w.heap.size w w' := by
 have hG := fun w => pgrid60 w
 have hF := fun u w h => pfloor_any u a 60 w h (by omega) (sa.more (by omega))
 have hC := fun u w h => pceil_any u b 60 w h (by omega) (sb.more (by omega))
 rw [show ((60 : Nat) : Int) = 60 from rfl] at hF hC
 have hBt := fun u v w h h' => pbetween_any u v (flr a 60) (cel b 60) w h h' ((sz_flr (k := 60) sa).more (by omega)) ((sz_cel (k := 60) sb).more (by omega))
 generalize mkRat (flr a 60) (2 ^ 60) = r1 at *
 generalize mkRat (cel b 60) (2 ^ 60) = r2 at *
 generalize flr a 60 = fl at *
 generalize cel b 60 = ce at *
 obtain ⟨s1, A1, L1, C1, D1, M1, E1, s2, A2, L2, C2, D2, M2, E2, rfl, q1, q2⟩ := h.opn
 clear h sa sb
 obtain ⟨g, hg⟩ : ∃ g, g = w.heap.size := ⟨_, rfl⟩
 obtain ⟨Y0, eY0, hA, bY0⟩ := box1 w 46 #[.bool s1, .slice A1 L1 C1, .slice D1 M1 E1, .bool s2, .slice A2 L2 C2, .slice D2 M2 E2]
 have zY0 : Y0.heap.size = g + 1 := by rw [eY0, World.size_alloc, ← hg]
 rw [← hg] at hA
 replace q1 := q1.below bY0
 replace q2 := q2.below bY0
 have hB := bY0
 obtain ⟨Y1, eY1, hR, bY1⟩ := box1 Y0 46 #[.bool false, .slice none 0 0, .slice none 0 0, .bool false, .slice none 0 0, .slice none 0 0]
 have zY1 : Y1.heap.size = g + 1 + 1 := by rw [eY1, World.size_alloc, zY0]
 rw [zY0] at hR
 replace hA := hA.below bY1 hA.lt
 replace q1 := q1.below bY1
 replace q2 := q2.below bY1
 replace hB := hB.trans (bY1.mono hB.size)
 have hgw : w.heap.size ≤ g := by omega
 have EY := Lib.hid (And.intro hg (And.intro eY0 eY1))
 clear hg eY0 zY0 eY1 zY1
 obtain ⟨c0, c1, c2, c3, c4, c5⟩ := hA.q6
 obtain ⟨c6, c7, c8, c9, c10, c11⟩ := hR.q6
 go_enter Tryz.func88, Tryz.ntmps88
 go_wp2_with fail
 rw [← EY.out.2.1, ← EY.out.2.2, ← EY.out.1]
 refine (hG _).mono ?_
 rintro e w2 ⟨rfl, rfl⟩
 go_wp2_with fail
 refine (hF _ _ q1).mono ?_
 rintro e w3 ⟨v3, rfl, z3, b3⟩
 replace q1 := q1.below b3
 replace q2 := q2.below b3
 replace hA := hA.below b3 hA.lt
 replace hR := hR.below b3 hR.lt
 replace hB := hB.trans (b3.mono hB.size)
 clear c0 c1 c2 c3 c4 c5 c6 c7 c8 c9 c10 c11
 obtain ⟨c12, c13, c14, c15, c16, c17⟩ := hA.q6
 obtain ⟨c18, c19, c20, c21, c22, c23⟩ := hR.q6
 obtain ⟨s3, A3, L3, C3, rfl, z3⟩ := z3.opn
 obtain ⟨V5, eV, h3, bV5⟩ := box1 w3 30 #[.bool s3, .slice A3 L3 C3]
 obtain ⟨X5, eX⟩ : ∃ X, X = w3.heap.size := ⟨_, rfl⟩
 rw [← eX] at h3
 have lX5 : w.heap.size ≤ X5 := by rw [eX]; exact hB.size
 have dX5_hA : g ≠ X5 := by have := hA.lt; omega
 have dX5_hR : g + 1 ≠ X5 := by have := hR.lt; omega
 have EV5 := Lib.hid (And.intro eV eX)
 clear eV eX
 go_upto_region 4 with fail
 rw [← EV5.out.1, ← EV5.out.2]
 replace q1 := q1.below bV5
 replace q2 := q2.below bV5
 replace hA := hA.below bV5 hA.lt
 replace hR := hR.below bV5 hR.lt
 replace z3 := z3.below bV5
 replace hB := hB.trans (bV5.mono hB.size)
 clear c12 c13 c14 c15 c16 c17 c18 c19 c20 c21 c22 c23
 obtain ⟨c24, c25, c26, c27, c28, c29⟩ := hA.q6
 obtain ⟨c30, c31, c32, c33, c34, c35⟩ := hR.q6
 obtain ⟨c36, c37⟩ := h3.q2
 go_wp2_with fail
 refine (hC _ _ q2).mono ?_
 rintro e w7 ⟨v4, rfl, z4, b7⟩
 replace q1 := q1.below b7
 replace q2 := q2.below b7
 replace hA := hA.below b7 hA.lt
 replace hR := hR.below b7 hR.lt
 replace z3 := z3.below b7
 replace h3 := h3.below b7 h3.lt
 replace hB := hB.trans (b7.mono hB.size)
 clear c24 c25 c26 c27 c28 c29 c30 c31 c32 c33 c34 c35 c36 c37
 obtain ⟨c38, c39, c40, c41, c42, c43⟩ := hA.q6
 obtain ⟨c44, c45, c46, c47, c48, c49⟩ := hR.q6
 obtain ⟨c50, c51⟩ := h3.q2
 obtain ⟨s4, A4, L4, C4, rfl, z4⟩ := z4.opn
 obtain ⟨V9, eV, h4, bV9⟩ := box1 w7 30 #[.bool s4, .slice A4 L4 C4]
 obtain ⟨X9, eX⟩ : ∃ X, X = w7.heap.size := ⟨_, rfl⟩
 rw [← eX] at h4
 have lX9 : w.heap.size ≤ X9 := by rw [eX]; exact hB.size
 have dX9_hA : g ≠ X9 := by have := hA.lt; omega
 have dX9_hR : g + 1 ≠ X9 := by have := hR.lt; omega
 have dX9_h3 : X5 ≠ X9 := by have := h3.lt; omega
 have EV9 := Lib.hid (And.intro eV eX)
 clear eV eX
 go_upto_region 5 with fail
 rw [← EV9.out.1, ← EV9.out.2]
 replace q1 := q1.below bV9
 replace q2 := q2.below bV9
 replace hA := hA.below bV9 hA.lt
 replace hR := hR.below bV9 hR.lt
 replace z3 := z3.below bV9
 replace h3 := h3.below bV9 h3.lt
 replace z4 := z4.below bV9
 replace hB := hB.trans (bV9.mono hB.size)
 clear c38 c39 c40 c41 c42 c43 c44 c45 c46 c47 c48 c49 c50 c51
 obtain ⟨c52, c53, c54, c55, c56, c57⟩ := hA.q6
 obtain ⟨c58, c59, c60, c61, c62, c63⟩ := hR.q6
 obtain ⟨c64, c65⟩ := h3.q2
 obtain ⟨c66, c67⟩ := h4.q2
 go_wp2_with fail
 refine (hBt _ _ _ z3 z4).mono ?_
 rintro e w11 ⟨v5, rfl, h5, b11⟩
 replace q1 := q1.below b11
 replace q2 := q2.below b11
 replace hA := hA.below b11 hA.lt
 replace hR := hR.below b11 hR.lt
 replace z3 := z3.below b11
 replace h3 := h3.below b11 h3.lt
 replace z4 := z4.below b11
 replace h4 := h4.below b11 h4.lt
 replace hB := hB.trans (b11.mono hB.size)
 clear c52 c53 c54 c55 c56 c57 c58 c59 c60 c61 c62 c63 c64 c65 c66 c67
 obtain ⟨c68, c69, c70, c71, c72, c73⟩ := hA.q6
 obtain ⟨c74, c75, c76, c77, c78, c79⟩ := hR.q6
 obtain ⟨c80, c81⟩ := h3.q2
 obtain ⟨c82, c83⟩ := h4.q2
 obtain ⟨s5, A5, L5, C5, D5, M5, E5, s6, A6, L6, C6, D6, M6, E6, rfl, q5, q6⟩ := h5.opn
 obtain ⟨p1, p2, p3⟩ := put6 hR (.bool s5) (.slice A5 L5 C5) (.slice D5 M5 E5) (.bool s6) (.slice A6 L6 C6) (.slice D6 M6 E6) (by simp [noU]) hB (by omega)
 have rc0 : World.cell? _ ⟨g + 1, 0, none⟩ = some (.bool false) := hR.cell 0
 have rf0 := hR.frozen 0
 have rc1 : World.cell? _ ⟨g + 1, 1, none⟩ = some (.slice none 0 0) := hR.cell 1
 have rf1 := hR.frozen 1
 have rc2 : World.cell? _ ⟨g + 1, 2, none⟩ = some (.slice none 0 0) := hR.cell 2
 have rf2 := hR.frozen 2
 have rc3 : World.cell? _ ⟨g + 1, 3, none⟩ = some (.bool false) := hR.cell 3
 have rf3 := hR.frozen 3
 have rc4 : World.cell? _ ⟨g + 1, 4, none⟩ = some (.slice none 0 0) := hR.cell 4
 have rf4 := hR.frozen 4
 have rc5 : World.cell? _ ⟨g + 1, 5, none⟩ = some (.slice none 0 0) := hR.cell 5
 have rf5 := hR.frozen 5
 have P := Lib.hid (And.intro (⟨_, _, _, _, _, _, rfl, q5.kept p2, q6.kept p2⟩ : IsS _ _ r1 r2) (And.intro p3 p1.cells6))
 clear p1 p2 p3
 go_wp2_with fail
 obtain ⟨P1, P2, P3, P4, P5, P6, P7, P8⟩ := P.out
 exact bodyPost_ret (v := .tuple #[.agg #[.bool s5, .slice A5 L5 C5, .slice D5 M5 E5, .bool s6, .slice A6 L6 C6, .slice D6 M6 E6], .int .i64 0]) (by simp [results, Tryz.results88, go_sem, P3, P4, P5, P6, P7, P8]) rfl ⟨_, rfl, P1, P2⟩
set_option maxRecDepth 100000 in
set_option maxHeartbeats 8000000 in
theorem pup_any (v : Value) (a : Rat) (w : World) (h : IsQ w v a) (sa : BQ a 10000) :
   Calls Tryz.prog 149 #[v, .int .i64 60] w fun e w' => ∃ v', e = .returned v' ∧ IsN w' v' (a.num.natAbs * 2 ^ 120) ∧ Below w.heap.size w w' := by
 obtain ⟨s1, A1, L1, C1, D1, M1, E1, rfl, q1⟩ := h.opn
 have hS := fun w h => dshl_any (.slice A1 L1 C1) a.num.natAbs 120 (by omega) w h (sa.1.fin (by omega))
 rw [show ((120 : Nat) : Int) = 120 from rfl] at hS
 generalize hm : a.num.natAbs * 2 ^ 120 = m at *
 generalize hn : a.num.natAbs = n at *
 clear h sa hm
 obtain ⟨g, hg⟩ : ∃ g, g = w.heap.size := ⟨_, rfl⟩
 obtain ⟨Y0, eY0, hA, bY0⟩ := box1 w 32 #[.bool s1, .slice A1 L1 C1, .slice D1 M1 E1]
 have zY0 : Y0.heap.size = g + 1 := by rw [eY0, World.size_alloc, ← hg]
 rw [← hg] at hA
 replace q1 := q1.below bY0
 have hB := bY0
 have hgw : w.heap.size ≤ g := by omega
 have EY := Lib.hid (And.intro hg eY0)
 clear hg eY0 zY0
 obtain ⟨c0, c1, c2⟩ := hA.q3
 go_enter Tryz.func149, Tryz.ntmps149
 have n1 := q1.parts.2.1.parts.2
 rw [hn] at n1
 go_wp2_with fail
 rw [← EY.out.2, ← EY.out.1]
 refine (hS _ n1).mono ?_
 rintro e w2 ⟨v2, rfl, n2, b2⟩
 replace q1 := q1.below b2
 replace hA := hA.below b2 hA.lt
 replace n1 := n1.below b2
 replace hB := hB.trans (b2.mono hB.size)
 clear c0 c1 c2
 obtain ⟨c3, c4, c5⟩ := hA.q3
 go_wp2
 go_ret
 exact ⟨_, rfl, n2, hB⟩
def qnt (l : List Rat) (i : Nat) : Rat := l[i]?.getD 0
theorem qnt_at {l : List Rat} {i : Nat} (h : i < l.length) : l[i] = qnt l i := by unfold qnt; rw [List.getElem?_eq_getElem h]; rfl
def mnTo (l : List Rat) : Nat → Rat
 | 0 => qnt l 0
 | j + 1 => if cmpQ (qnt l (j + 1)) (mnTo l j) < 0 then qnt l (j + 1) else mnTo l j
def mxTo (l : List Rat) : Nat → Rat
 | 0 => qnt l 0
 | j + 1 => if 0 < cmpQ (qnt l (j + 1)) (mxTo l j) then qnt l (j + 1) else mxTo l j
theorem mnTo_all {l : List Rat} {P : Rat → Prop} (h : ∀ i, i < l.length → P (qnt l i)) : ∀ j, j < l.length → P (mnTo l j)
 | 0, hj => h 0 hj
 | j + 1, hj => by
   unfold mnTo
   split
   · exact h _ hj
   · exact mnTo_all h j (by omega)
theorem mxTo_all {l : List Rat} {P : Rat → Prop} (h : ∀ i, i < l.length → P (qnt l i)) : ∀ j, j < l.length → P (mxTo l j)
 | 0, hj => h 0 hj
 | j + 1, hj => by
   unfold mxTo
   split
   · exact h _ hj
   · exact mxTo_all h j (by omega)
set_option maxRecDepth 100000 in
set_option maxHeartbeats 8000000 in
theorem minfunc_any (v : Value) (rs : List Rat) (w : World) (h : IsQs w v rs) (h0 : 0 < rs.length) (hs : ∀ i, i < rs.length → BQ (qnt rs i) 10000) :
   Calls Tryz.prog 192 #[v, .func (.func 191) #[] #[]] w fun e w' => ∃ v', e = .returned v' ∧ IsQ w' v' (mnTo rs (rs.length - 1)) ∧ Below w.heap.size w w' := by
 obtain ⟨A, c, rfl, _, _⟩ := h.len
 obtain ⟨g, hg⟩ : ∃ g, g = w.heap.size := ⟨_, rfl⟩
 obtain ⟨Y0, eY0, hR, bY0⟩ := box1 w 32 #[.bool false, .slice none 0 0, .slice none 0 0]
 have zY0 : Y0.heap.size = g + 1 := by rw [eY0, World.size_alloc, ← hg]
 rw [← hg] at hR
 have hB := bY0
 have hgw : w.heap.size ≤ g := by omega
 have EY := Lib.hid (And.intro hg eY0)
 clear hg eY0 zY0
 obtain ⟨c0, c1, c2⟩ := hR.q3
 go_enter Tryz.func192, Tryz.ntmps192
 have n0 : decide ((rs.length : Int) < 1) = false := decide_eq_false (by omega)
 go_upto_region 3 with fail
 rw [← EY.out.2, ← EY.out.1]
 have hv := h.below hB
 obtain ⟨ad, c', s1, p1, r1, e1, _, x0, x1, x2, q1⟩ := hv.at_ h0
 obtain ⟨rfl, -, -⟩ := Value.slice.inj e1
 have e0 : ad.add (0 * 3) = ad := by simp [Addr.add]
 rw [e0] at x0 x1 x2
 rw [qnt_at] at q1
 obtain ⟨s5, A5, L5, C5, D5, M5, E5, e3, q5⟩ := q1.opn
 obtain ⟨rfl, rfl, rfl⟩ : s5 = s1 ∧ p1 = .slice A5 L5 C5 ∧ r1 = .slice D5 M5 E5 := by
   injection e3 with e3; simp only [Array.mk.injEq, List.cons.injEq, and_true] at e3; exact ⟨by have := e3.1; injection this with this; exact this.symm, e3.2.1, e3.2.2⟩
 clear e1 e0 e3 q1 hv
 obtain ⟨V2, eV, h5, bV2⟩ := box1 Y0 32 #[.bool s5, .slice A5 L5 C5, .slice D5 M5 E5]
 obtain ⟨X2, eX⟩ : ∃ X, X = Y0.heap.size := ⟨_, rfl⟩
 rw [← eX] at h5
 have lX2 : w.heap.size ≤ X2 := by rw [eX]; exact hB.size
 have dX2_hR : g ≠ X2 := by have := hR.lt; omega
 have EV2 := Lib.hid (And.intro eV eX)
 clear eV eX
 go_upto_region 4 with fail
 rw [← EV2.out.1, ← EV2.out.2]
 replace hR := hR.below bV2 hR.lt
 replace q5 := q5.below bV2
 replace hB := hB.trans (bV2.mono hB.size)
 clear c0 c1 c2
 obtain ⟨c3, c4, c5⟩ := hR.q3
 obtain ⟨c6, c7, c8⟩ := h5.q3
 clear x0 x1 x2 n0
 go_wp2_with fail
 go_loopw [6] (fun iV wr => ∃ (J : Nat) (s5 : Bool) (A5 D5 : Option Addr) (L5 C5 M5 E5 : Nat), iV = .int .i64 J ∧ 1 ≤ J ∧ J ≤ rs.length ∧ Blk wr g 32 #[.bool false, .slice none 0 0, .slice none 0 0] ∧ Blk wr X2 32 #[.bool s5, .slice A5 L5 C5, .slice D5 M5 E5] ∧ IsQ wr (.agg #[.bool s5, .slice A5 L5 C5, .slice D5 M5 E5]) (mnTo rs (J - 1)) ∧ Below w.heap.size w wr) (fun iV _ => rs.length - (intOf iV).toNat)
 case atStart => exact ⟨1, _, _, _, _, _, _, _, rfl, Nat.le_refl _, h0, hR, h5, q5, hB⟩
 case round =>
   clear hR h5 q5 hB
   obtain ⟨J, s5, A5, D5, L5, C5, M5, E5, rfl, hJ1, hJ, hR, h5, q5, hB⟩ := hrel
   by_cases hlt : J < rs.length
   · have hv := h.below hB
     obtain ⟨ad', c', s1, p1, r1, e1, _, x0, x1, x2, q1⟩ := hv.at_ hlt
     obtain ⟨e2, -, -⟩ := Value.slice.inj e1
     obtain rfl := Option.some.inj e2
     rw [qnt_at] at q1
     obtain ⟨s6, A6, L6, C6, D6, M6, E6, e3, q6⟩ := q1.opn
     obtain ⟨rfl, rfl, rfl⟩ : s6 = s1 ∧ p1 = .slice A6 L6 C6 ∧ r1 = .slice D6 M6 E6 := by
       injection e3 with e3; simp only [Array.mk.injEq, List.cons.injEq, and_true] at e3; exact ⟨by have := e3.1; injection this with this; exact this.symm, e3.2.1, e3.2.2⟩
     have i0 : (0 : Int) ≤ (J : Int) := by omega
     have i1 : (J : Int) < (rs.length : Int) := by omega
     have s6' := hs J hlt
     have s5' := mnTo_all (l := rs) (P := fun q => BQ q 10000) hs (J - 1) (by omega)
     have hC := fun u v w h1 h2 => prcmp_any u v (qnt rs J) (mnTo rs (J - 1)) w h1 h2 s6' s5'
     have HN := Lib.hid (show mnTo rs J = if cmpQ (qnt rs J) (mnTo rs (J - 1)) < 0 then qnt rs J else mnTo rs (J - 1) by
       obtain ⟨K, rfl⟩ : ∃ K, J = K + 1 := ⟨J - 1, by omega⟩
       rfl)
     generalize cmpQ (qnt rs J) (mnTo rs (J - 1)) = cm at *
     clear e1 e2 e3 q1 hv s6' s5'
     go_upto_region 7 with fail
     replace hB := hB.drew
     replace hR := hR.drew
     replace h5 := h5.drew
     replace q5 := q5.below (bdrew _)
     replace x0 := cellAU (bdrew _) x0
     replace x1 := cellAU (bdrew _) x1
     replace x2 := cellAU (bdrew _) x2
     replace q6 := q6.below (bdrew _)
     clear c3 c4 c5 c6 c7 c8
     refine wp_region_noPanic ?_
     refine wp_region_held_drew (S := fun w' => w'.cell? (ad.add (J * 3)) = some (.bool s6) ∧ w'.cell? ⟨(ad.add (J * 3)).block, (ad.add (J * 3)).off + 1, none⟩ = some (.slice A6 L6 C6) ∧ w'.cell? ⟨(ad.add (J * 3)).block, (ad.add (J * 3)).off + 2, none⟩ = some (.slice D6 M6 E6) ∧ w'.cell? ⟨X2, 0, none⟩ = some (.bool s5) ∧ w'.cell? ⟨X2, 1, none⟩ = some (.slice A5 L5 C5) ∧ w'.cell? ⟨X2, 2, none⟩ = some (.slice D5 M5 E5)) (by kernel_rfl) ?_ (fun hHeld => ?_)
     · exact ⟨x0, x1, x2, h5.cell 0, h5.cell 1, h5.cell 2⟩
     obtain ⟨wd7_1, hwd⟩ : ∃ q, q = wr.drew := ⟨_, rfl⟩
     rw [← hwd] at hB hR h5 q5 x0 x1 x2 q6 hHeld ⊢
     clear hwd
     refine tkH 0 rfl (v := ?v1) ?h1 ?r1
     case h1 => intro w hSw; (try dsimp only at hSw); go_simp; try (with_reducible rfl)
     refine tkH 1 rfl (v := ?v2) ?h2 ?r2
     case h2 => intro w hSw; (try dsimp only at hSw); go_simp; try (with_reducible rfl)
     refine tkH 2 rfl (v := ?v3) ?h3 ?r3
     case h3 => intro w hSw; (try dsimp only at hSw); go_simp; try (with_reducible rfl)
     refine tkH 3 rfl (v := ?v4) ?h4 ?r4
     case h4 => intro w hSw; (try dsimp only at hSw); go_simp; try (with_reducible rfl)
     refine tkH 4 rfl (v := ?v5) ?h5 ?r5
     case h5 => intro w hSw; (try dsimp only at hSw); go_simp; try (with_reducible rfl)
     refine tkH 5 rfl (v := ?v6) ?h6 ?r6
     case h6 => intro w hSw; (try dsimp only at hSw); go_simp; try (with_reducible rfl)
     try simp only [Act.put, lay1, lay2, lay3, lay4, lay5, lay6]
     refine rd1 6 rfl fun K hK => ?_
     go_simp
     refine (hC _ _ _ q6 q5).mono ?_
     rintro e u7_1 ⟨rfl, b7_1⟩
     replace hR := hR.below b7_1 hR.lt
     replace h5 := h5.below b7_1 h5.lt
     replace q5 := q5.below b7_1
     replace x0 := cellAU b7_1 x0
     replace x1 := cellAU b7_1 x1
     replace x2 := cellAU b7_1 x2
     replace q6 := q6.below b7_1
     replace hB := hB.trans (b7_1.mono hB.size)
     go_wp2_with fail
     refine hK.out _ _ ?_ (fun hHeld => ?_)
     · exact ⟨x0, x1, x2, h5.cell 0, h5.cell 1, h5.cell 2⟩
     clear hK K
     refine tkH 7 rfl (v := ?v7) ?h7 ?r7
     case h7 => intro w hSw; (try dsimp only at hSw); go_simp; try (with_reducible rfl)
     try simp only [Act.put, lay1, lay2, lay3, lay4, lay5, lay6]
     try dsimp only
     try simp only [Act.put, lay1, lay2, lay3, lay4, lay5, lay6]
     refine wpAnyH_done (by kernel_rfl) ?_ _
     refine NoPanic.normal ?_
     skip
     obtain ⟨c9, c10, c11⟩ := hR.q3
     obtain ⟨c12, c13, c14⟩ := h5.q3
     by_cases hc : cm < 0
     · have hd : decide (cm < 0) = true := decide_eq_true hc
       obtain ⟨W8, eW, f1, f2, f3, f4⟩ := fill3 h5 (.bool s6) (.slice A6 L6 C6) (.slice D6 M6 E6) (by simp [noU])
       have xf := h5.frozen
       have y0 := h5.cell 0
       have y1 := h5.cell 1
       have y2 := h5.cell 2
       rw [if_pos hc] at HN
       go_upto_region 6 with fail
       rw [← eW]
       replace hR := f3 _ _ _ hR (by omega)
       replace q6 := q6.filled f2
       replace hB := f4 _ _ (by omega) hB
       clear eW f2 f3 f4 xf y0 y1 y2 h5 x0 x1 x2 hd
       go_wp2
       exact ⟨⟨J + 1, s6, A6, D6, L6, C6, M6, E6, by go_num, by omega, by omega, hR, f1, by rw [Nat.add_sub_cancel, HN.out]; exact q6, hB⟩, by simp [intOf]; omega⟩
     · have hd : decide (cm < 0) = false := decide_eq_false hc
       rw [if_neg hc] at HN
       go_wp2
       exact ⟨⟨J + 1, s5, A5, D5, L5, C5, M5, E5, by go_num, by omega, by omega, hR, h5, by rw [Nat.add_sub_cancel, HN.out]; exact q5, hB⟩, by simp [intOf]; omega⟩
   · obtain rfl : J = rs.length := by omega
     obtain ⟨y0, y1, y2⟩ := h5.q3
     obtain ⟨p1, p2, p3⟩ := put3 hR (.bool s5) (.slice A5 L5 C5) (.slice D5 M5 E5) (by simp [noU]) hB (by omega)
     have rc0 : World.cell? _ ⟨g, 0, none⟩ = some (.bool false) := hR.cell 0
     have rf0 := hR.frozen 0
     have rc1 : World.cell? _ ⟨g, 1, none⟩ = some (.slice none 0 0) := hR.cell 1
     have rf1 := hR.frozen 1
     have rc2 : World.cell? _ ⟨g, 2, none⟩ = some (.slice none 0 0) := hR.cell 2
     have rf2 := hR.frozen 2
     have P := Lib.hid (And.intro (q5.kept p2) (And.intro p3 p1.cells3))
     clear p1 p2 p3
     go_wp2_with fail
     obtain ⟨P1, P2, P3, P4, P5⟩ := P.out
     exact bodyPost_ret (v := .agg #[.bool s5, .slice A5 L5 C5, .slice D5 M5 E5]) (by simp [results, Tryz.results192, go_sem, P3, P4, P5]) rfl ⟨_, rfl, P1, P2⟩
set_option maxRecDepth 100000 in
set_option maxHeartbeats 8000000 in
theorem maxfunc_any (v : Value) (rs : List Rat) (w : World) (h : IsQs w v rs) (h0 : 0 < rs.length) (hs : ∀ i, i < rs.length → BQ (qnt rs i) 10000) :
   Calls Tryz.prog 193 #[v, .func (.func 191) #[] #[]] w fun e w' => ∃ v', e = .returned v' ∧ IsQ w' v' (mxTo rs (rs.length - 1)) ∧ Below w.heap.size w w' := by
 obtain ⟨A, c, rfl, _, _⟩ := h.len
 obtain ⟨g, hg⟩ : ∃ g, g = w.heap.size := ⟨_, rfl⟩
 obtain ⟨Y0, eY0, hR, bY0⟩ := box1 w 32 #[.bool false, .slice none 0 0, .slice none 0 0]
 have zY0 : Y0.heap.size = g + 1 := by rw [eY0, World.size_alloc, ← hg]
 rw [← hg] at hR
 have hB := bY0
 have hgw : w.heap.size ≤ g := by omega
 have EY := Lib.hid (And.intro hg eY0)
 clear hg eY0 zY0
 obtain ⟨c0, c1, c2⟩ := hR.q3
 go_enter Tryz.func193, Tryz.ntmps193
 have n0 : decide ((rs.length : Int) < 1) = false := decide_eq_false (by omega)
 go_upto_region 3 with fail
 rw [← EY.out.2, ← EY.out.1]
 have hv := h.below hB
 obtain ⟨ad, c', s1, p1, r1, e1, _, x0, x1, x2, q1⟩ := hv.at_ h0
 obtain ⟨rfl, -, -⟩ := Value.slice.inj e1
 have e0 : ad.add (0 * 3) = ad := by simp [Addr.add]
 rw [e0] at x0 x1 x2
 rw [qnt_at] at q1
 obtain ⟨s5, A5, L5, C5, D5, M5, E5, e3, q5⟩ := q1.opn
 obtain ⟨rfl, rfl, rfl⟩ : s5 = s1 ∧ p1 = .slice A5 L5 C5 ∧ r1 = .slice D5 M5 E5 := by
   injection e3 with e3; simp only [Array.mk.injEq, List.cons.injEq, and_true] at e3; exact ⟨by have := e3.1; injection this with this; exact this.symm, e3.2.1, e3.2.2⟩
 clear e1 e0 e3 q1 hv
 obtain ⟨V2, eV, h5, bV2⟩ := box1 Y0 32 #[.bool s5, .slice A5 L5 C5, .slice D5 M5 E5]
 obtain ⟨X2, eX⟩ : ∃ X, X = Y0.heap.size := ⟨_, rfl⟩
 rw [← eX] at h5
 have lX2 : w.heap.size ≤ X2 := by rw [eX]; exact hB.size
 have dX2_hR : g ≠ X2 := by have := hR.lt; omega
 have EV2 := Lib.hid (And.intro eV eX)
 clear eV eX
 go_upto_region 4 with fail
 rw [← EV2.out.1, ← EV2.out.2]
 replace hR := hR.below bV2 hR.lt
 replace q5 := q5.below bV2
 replace hB := hB.trans (bV2.mono hB.size)
 clear c0 c1 c2
 obtain ⟨c3, c4, c5⟩ := hR.q3
 obtain ⟨c6, c7, c8⟩ := h5.q3
 clear x0 x1 x2 n0
 go_wp2_with fail
 go_loopw [6] (fun iV wr => ∃ (J : Nat) (s5 : Bool) (A5 D5 : Option Addr) (L5 C5 M5 E5 : Nat), iV = .int .i64 J ∧ 1 ≤ J ∧ J ≤ rs.length ∧ Blk wr g 32 #[.bool false, .slice none 0 0, .slice none 0 0] ∧ Blk wr X2 32 #[.bool s5, .slice A5 L5 C5, .slice D5 M5 E5] ∧ IsQ wr (.agg #[.bool s5, .slice A5 L5 C5, .slice D5 M5 E5]) (mxTo rs (J - 1)) ∧ Below w.heap.size w wr) (fun iV _ => rs.length - (intOf iV).toNat)
 case atStart => exact ⟨1, _, _, _, _, _, _, _, rfl, Nat.le_refl _, h0, hR, h5, q5, hB⟩
 case round =>
   clear hR h5 q5 hB
   obtain ⟨J, s5, A5, D5, L5, C5, M5, E5, rfl, hJ1, hJ, hR, h5, q5, hB⟩ := hrel
   by_cases hlt : J < rs.length
   · have hv := h.below hB
     obtain ⟨ad', c', s1, p1, r1, e1, _, x0, x1, x2, q1⟩ := hv.at_ hlt
     obtain ⟨e2, -, -⟩ := Value.slice.inj e1
     obtain rfl := Option.some.inj e2
     rw [qnt_at] at q1
     obtain ⟨s6, A6, L6, C6, D6, M6, E6, e3, q6⟩ := q1.opn
     obtain ⟨rfl, rfl, rfl⟩ : s6 = s1 ∧ p1 = .slice A6 L6 C6 ∧ r1 = .slice D6 M6 E6 := by
       injection e3 with e3; simp only [Array.mk.injEq, List.cons.injEq, and_true] at e3; exact ⟨by have := e3.1; injection this with this; exact this.symm, e3.2.1, e3.2.2⟩
     have i0 : (0 : Int) ≤ (J : Int) := by omega
     have i1 : (J : Int) < (rs.length : Int) := by omega
     have s6' := hs J hlt
     have s5' := mxTo_all (l := rs) (P := fun q => BQ q 10000) hs (J - 1) (by omega)
     have hC := fun u v w h1 h2 => prcmp_any u v (qnt rs J) (mxTo rs (J - 1)) w h1 h2 s6' s5'
     have HN := Lib.hid (show mxTo rs J = if 0 < cmpQ (qnt rs J) (mxTo rs (J - 1)) then qnt rs J else mxTo rs (J - 1) by
       obtain ⟨K, rfl⟩ : ∃ K, J = K + 1 := ⟨J - 1, by omega⟩
       rfl)
     generalize cmpQ (qnt rs J) (mxTo rs (J - 1)) = cm at *
     clear e1 e2 e3 q1 hv s6' s5'
     go_upto_region 7 with fail
     replace hB := hB.drew
     replace hR := hR.drew
     replace h5 := h5.drew
     replace q5 := q5.below (bdrew _)
     replace x0 := cellAU (bdrew _) x0
     replace x1 := cellAU (bdrew _) x1
     replace x2 := cellAU (bdrew _) x2
     replace q6 := q6.below (bdrew _)
     clear c3 c4 c5 c6 c7 c8
     refine wp_region_noPanic ?_
     refine wp_region_held_drew (S := fun w' => w'.cell? (ad.add (J * 3)) = some (.bool s6) ∧ w'.cell? ⟨(ad.add (J * 3)).block, (ad.add (J * 3)).off + 1, none⟩ = some (.slice A6 L6 C6) ∧ w'.cell? ⟨(ad.add (J * 3)).block, (ad.add (J * 3)).off + 2, none⟩ = some (.slice D6 M6 E6) ∧ w'.cell? ⟨X2, 0, none⟩ = some (.bool s5) ∧ w'.cell? ⟨X2, 1, none⟩ = some (.slice A5 L5 C5) ∧ w'.cell? ⟨X2, 2, none⟩ = some (.slice D5 M5 E5)) (by kernel_rfl) ?_ (fun hHeld => ?_)
     · exact ⟨x0, x1, x2, h5.cell 0, h5.cell 1, h5.cell 2⟩
     obtain ⟨wd7_1, hwd⟩ : ∃ q, q = wr.drew := ⟨_, rfl⟩
     rw [← hwd] at hB hR h5 q5 x0 x1 x2 q6 hHeld ⊢
     clear hwd
     refine tkH 0 rfl (v := ?v8) ?h8 ?r8
     case h8 => intro w hSw; (try dsimp only at hSw); go_simp; try (with_reducible rfl)
     refine tkH 1 rfl (v := ?v9) ?h9 ?r9
     case h9 => intro w hSw; (try dsimp only at hSw); go_simp; try (with_reducible rfl)
     refine tkH 2 rfl (v := ?v10) ?h10 ?r10
     case h10 => intro w hSw; (try dsimp only at hSw); go_simp; try (with_reducible rfl)
     refine tkH 3 rfl (v := ?v11) ?h11 ?r11
     case h11 => intro w hSw; (try dsimp only at hSw); go_simp; try (with_reducible rfl)
     refine tkH 4 rfl (v := ?v12) ?h12 ?r12
     case h12 => intro w hSw; (try dsimp only at hSw); go_simp; try (with_reducible rfl)
     refine tkH 5 rfl (v := ?v13) ?h13 ?r13
     case h13 => intro w hSw; (try dsimp only at hSw); go_simp; try (with_reducible rfl)
     try simp only [Act.put, lay1, lay2, lay3, lay4, lay5, lay6]
     refine rd1 6 rfl fun K hK => ?_
     go_simp
     refine (hC _ _ _ q6 q5).mono ?_
     rintro e u7_1 ⟨rfl, b7_1⟩
     replace hR := hR.below b7_1 hR.lt
     replace h5 := h5.below b7_1 h5.lt
     replace q5 := q5.below b7_1
     replace x0 := cellAU b7_1 x0
     replace x1 := cellAU b7_1 x1
     replace x2 := cellAU b7_1 x2
     replace q6 := q6.below b7_1
     replace hB := hB.trans (b7_1.mono hB.size)
     go_wp2_with fail
     refine hK.out _ _ ?_ (fun hHeld => ?_)
     · exact ⟨x0, x1, x2, h5.cell 0, h5.cell 1, h5.cell 2⟩
     clear hK K
     refine tkH 7 rfl (v := ?v14) ?h14 ?r14
     case h14 => intro w hSw; (try dsimp only at hSw); go_simp; try (with_reducible rfl)
     try simp only [Act.put, lay1, lay2, lay3, lay4, lay5, lay6]
     try dsimp only
     try simp only [Act.put, lay1, lay2, lay3, lay4, lay5, lay6]
     refine wpAnyH_done (by kernel_rfl) ?_ _
     refine NoPanic.normal ?_
     skip
     obtain ⟨c9, c10, c11⟩ := hR.q3
     obtain ⟨c12, c13, c14⟩ := h5.q3
     by_cases hc : 0 < cm
     · have hd : decide (0 < cm) = true := decide_eq_true hc
       obtain ⟨W8, eW, f1, f2, f3, f4⟩ := fill3 h5 (.bool s6) (.slice A6 L6 C6) (.slice D6 M6 E6) (by simp [noU])
       have xf := h5.frozen
       have y0 := h5.cell 0
       have y1 := h5.cell 1
       have y2 := h5.cell 2
       rw [if_pos hc] at HN
       go_upto_region 6 with fail
       rw [← eW]
       replace hR := f3 _ _ _ hR (by omega)
       replace q6 := q6.filled f2
       replace hB := f4 _ _ (by omega) hB
       clear eW f2 f3 f4 xf y0 y1 y2 h5 x0 x1 x2 hd
       go_wp2
       exact ⟨⟨J + 1, s6, A6, D6, L6, C6, M6, E6, by go_num, by omega, by omega, hR, f1, by rw [Nat.add_sub_cancel, HN.out]; exact q6, hB⟩, by simp [intOf]; omega⟩
     · have hd : decide (0 < cm) = false := decide_eq_false hc
       rw [if_neg hc] at HN
       go_wp2
       exact ⟨⟨J + 1, s5, A5, D5, L5, C5, M5, E5, by go_num, by omega, by omega, hR, h5, by rw [Nat.add_sub_cancel, HN.out]; exact q5, hB⟩, by simp [intOf]; omega⟩
   · obtain rfl : J = rs.length := by omega
     obtain ⟨y0, y1, y2⟩ := h5.q3
     obtain ⟨p1, p2, p3⟩ := put3 hR (.bool s5) (.slice A5 L5 C5) (.slice D5 M5 E5) (by simp [noU]) hB (by omega)
     have rc0 : World.cell? _ ⟨g, 0, none⟩ = some (.bool false) := hR.cell 0
     have rf0 := hR.frozen 0
     have rc1 : World.cell? _ ⟨g, 1, none⟩ = some (.slice none 0 0) := hR.cell 1
     have rf1 := hR.frozen 1
     have rc2 : World.cell? _ ⟨g, 2, none⟩ = some (.slice none 0 0) := hR.cell 2
     have rf2 := hR.frozen 2
     have P := Lib.hid (And.intro (q5.kept p2) (And.intro p3 p1.cells3))
     clear p1 p2 p3
     go_wp2_with fail
     obtain ⟨P1, P2, P3, P4, P5⟩ := P.out
     exact bodyPost_ret (v := .agg #[.bool s5, .slice A5 L5 C5, .slice D5 M5 E5]) (by simp [results, Tryz.results193, go_sem, P3, P4, P5]) rfl ⟨_, rfl, P1, P2⟩
set_option maxRecDepth 100000 in
set_option maxHeartbeats 8000000 in
theorem around_any (v : Value) (rs : List Rat) (w : World) (h : IsQs w v rs) (h0 : 0 < rs.length) (hs : ∀ i, i < rs.length → BQ (qnt rs i) 10000) :
   Calls Tryz.prog 146 #[v] w fun e w' => ∃ v', e = .returned v' ∧ IsS w' v' (mnTo rs (rs.length - 1)) (mxTo rs (rs.length - 1)) ∧ Below w.heap.size w w' := by
 obtain ⟨A, c, rfl, _, _⟩ := h.len
 have hMn := fun w h => minfunc_any (.slice A rs.length c) rs w h h0 hs
 have hMx := fun w h => maxfunc_any (.slice A rs.length c) rs w h h0 hs
 generalize mnTo rs (rs.length - 1) = r1 at *
 generalize mxTo rs (rs.length - 1) = r2 at *
 clear hs h0
 obtain ⟨g, hg⟩ : ∃ g, g = w.heap.size := ⟨_, rfl⟩
 obtain ⟨Y0, eY0, hR, bY0⟩ := box1 w 46 #[.bool false, .slice none 0 0, .slice none 0 0, .bool false, .slice none 0 0, .slice none 0 0]
 have zY0 : Y0.heap.size = g + 1 := by rw [eY0, World.size_alloc, ← hg]
 rw [← hg] at hR
 replace h := h.below bY0
 have hB := bY0
 have hgw : w.heap.size ≤ g := by omega
 have EY := Lib.hid (And.intro hg eY0)
 clear hg eY0 zY0
 obtain ⟨c0, c1, c2, c3, c4, c5⟩ := hR.q6
 go_enter Tryz.func146, Tryz.ntmps146
 go_wp2_with fail
 rw [← EY.out.2, ← EY.out.1]
 refine (hMn _ h).mono ?_
 rintro e w2 ⟨v1, rfl, q1, b2⟩
 replace h := h.below b2
 replace hR := hR.below b2 hR.lt
 replace hB := hB.trans (b2.mono hB.size)
 clear c0 c1 c2 c3 c4 c5
 obtain ⟨c6, c7, c8, c9, c10, c11⟩ := hR.q6
 obtain ⟨s1, A1, L1, C1, D1, M1, E1, rfl, q1⟩ := q1.opn
 go_wp2_with fail
 refine (hMx _ h).mono ?_
 rintro e w4 ⟨v2, rfl, q2, b4⟩
 replace h := h.below b4
 replace hR := hR.below b4 hR.lt
 replace q1 := q1.below b4
 replace hB := hB.trans (b4.mono hB.size)
 clear c6 c7 c8 c9 c10 c11
 obtain ⟨c12, c13, c14, c15, c16, c17⟩ := hR.q6
 obtain ⟨s2, A2, L2, C2, D2, M2, E2, rfl, q2⟩ := q2.opn
 obtain ⟨p1, p2, p3⟩ := put6 hR (.bool s1) (.slice A1 L1 C1) (.slice D1 M1 E1) (.bool s2) (.slice A2 L2 C2) (.slice D2 M2 E2) (by simp [noU]) hB (by omega)
 have rc0 : World.cell? _ ⟨g, 0, none⟩ = some (.bool false) := hR.cell 0
 have rf0 := hR.frozen 0
 have rc1 : World.cell? _ ⟨g, 1, none⟩ = some (.slice none 0 0) := hR.cell 1
 have rf1 := hR.frozen 1
 have rc2 : World.cell? _ ⟨g, 2, none⟩ = some (.slice none 0 0) := hR.cell 2
 have rf2 := hR.frozen 2
 have rc3 : World.cell? _ ⟨g, 3, none⟩ = some (.bool false) := hR.cell 3
 have rf3 := hR.frozen 3
 have rc4 : World.cell? _ ⟨g, 4, none⟩ = some (.slice none 0 0) := hR.cell 4
 have rf4 := hR.frozen 4
 have rc5 : World.cell? _ ⟨g, 5, none⟩ = some (.slice none 0 0) := hR.cell 5
 have rf5 := hR.frozen 5
 have P := Lib.hid (And.intro (⟨_, _, _, _, _, _, rfl, q1.kept p2, q2.kept p2⟩ : IsS _ _ r1 r2) (And.intro p3 p1.cells6))
 clear p1 p2 p3
 go_wp2_with fail
 obtain ⟨P1, P2, P3, P4, P5, P6, P7, P8⟩ := P.out
 exact bodyPost_ret (v := .agg #[.bool s1, .slice A1 L1 C1, .slice D1 M1 E1, .bool s2, .slice A2 L2 C2, .slice D2 M2 E2]) (by simp [results, Tryz.results146, go_sem, P3, P4, P5, P6, P7, P8]) rfl ⟨_, rfl, P1, P2⟩
theorem IsQs.of_blk {w : World} {X : Nat} {t : TypeId} {es : List Eq3} {rs : List Rat} (hb : Blk w X t (flatQ es).toArray) (hok : OkQ w es rs) (hl : rs.length ≤ 1000) : IsQs w (.slice (some ⟨X, 0, none⟩) rs.length rs.length) rs := by
 have h1 := hok.1
 have hf := flatQ_len es
 refine ⟨es, _, _, rfl, Nat.le_refl _, by omega, hok, by rw [hf, h1], fun _ => ⟨_, rfl, hb.lt, fun j u hu => ?_⟩⟩
 have e : Addr.add ⟨X, 0, none⟩ j = ⟨X, j, none⟩ := by
   unfold Addr.add
   by_cases h : j = 0
   · rw [if_pos h, h]
   · rw [if_neg h, Nat.zero_add]
 rw [e, hb.cell j, ← hu]
 simp
set_option maxRecDepth 100000 in
set_option maxHeartbeats 8000000 in
theorem pivmul_any (u v : Value) (a b c d : Rat) (w : World) (h : IsS w u a b) (h' : IsS w v c d) (sa : BQ a 4000) (sb : BQ b 4000) (sc : BQ c 4000) (sd : BQ d 4000) :
   Calls Tryz.prog 89 #[u, v] w fun e w' => ∃ v', e = .returned v' ∧ IsS w' v' (mnTo [a * c, a * d, b * c, b * d] 3) (mxTo [a * c, a * d, b * c, b * d] 3) ∧ Below w.heap.size w w' := by
 have hM1 := fun u v w h1 h2 => pmul_any u v a c w h1 h2 (sa.more (by omega)) (sc.more (by omega))
 have hM2 := fun u v w h1 h2 => pmul_any u v a d w h1 h2 (sa.more (by omega)) (sd.more (by omega))
 have hM3 := fun u v w h1 h2 => pmul_any u v b c w h1 h2 (sb.more (by omega)) (sc.more (by omega))
 have hM4 := fun u v w h1 h2 => pmul_any u v b d w h1 h2 (sb.more (by omega)) (sd.more (by omega))
 have hAr := fun v w h => around_any v [a * c, a * d, b * c, b * d] w h (by simp) (fun i hi => by
   rw [← qnt_at hi]
   match i, hi with
   | 0, _ => exact (sa.mul sc).more (by omega)
   | 1, _ => exact (sa.mul sd).more (by omega)
   | 2, _ => exact (sb.mul sc).more (by omega)
   | 3, _ => exact (sb.mul sd).more (by omega))
 rw [show [a * c, a * d, b * c, b * d].length - 1 = 3 from rfl] at hAr
 generalize mnTo [a * c, a * d, b * c, b * d] 3 = rl at *
 generalize mxTo [a * c, a * d, b * c, b * d] 3 = rh at *
 generalize a * c = r1 at *
 generalize a * d = r2 at *
 generalize b * c = r3 at *
 generalize b * d = r4 at *
 obtain ⟨s1, A1, L1, C1, D1, M1, E1, s2, A2, L2, C2, D2, M2, E2, rfl, q1, q2⟩ := h.opn
 obtain ⟨s3, A3, L3, C3, D3, M3, E3, s4, A4, L4, C4, D4, M4, E4, rfl, q3, q4⟩ := h'.opn
 clear h h' sa sb sc sd
 obtain ⟨g, hg⟩ : ∃ g, g = w.heap.size := ⟨_, rfl⟩
 obtain ⟨Y0, eY0, hA, bY0⟩ := box1 w 46 #[.bool s1, .slice A1 L1 C1, .slice D1 M1 E1, .bool s2, .slice A2 L2 C2, .slice D2 M2 E2]
 have zY0 : Y0.heap.size = g + 1 := by rw [eY0, World.size_alloc, ← hg]
 rw [← hg] at hA
 replace q1 := q1.below bY0
 replace q2 := q2.below bY0
 replace q3 := q3.below bY0
 replace q4 := q4.below bY0
 have hB := bY0
 obtain ⟨Y1, eY1, hC, bY1⟩ := box1 Y0 46 #[.bool s3, .slice A3 L3 C3, .slice D3 M3 E3, .bool s4, .slice A4 L4 C4, .slice D4 M4 E4]
 have zY1 : Y1.heap.size = g + 1 + 1 := by rw [eY1, World.size_alloc, zY0]
 rw [zY0] at hC
 replace hA := hA.below bY1 hA.lt
 replace q1 := q1.below bY1
 replace q2 := q2.below bY1
 replace q3 := q3.below bY1
 replace q4 := q4.below bY1
 replace hB := hB.trans (bY1.mono hB.size)
 obtain ⟨Y2, eY2, hR, bY2⟩ := box1 Y1 46 #[.bool false, .slice none 0 0, .slice none 0 0, .bool false, .slice none 0 0, .slice none 0 0]
 have zY2 : Y2.heap.size = g + 1 + 1 + 1 := by rw [eY2, World.size_alloc, zY1]
 rw [zY1] at hR
 replace hA := hA.below bY2 hA.lt
 replace hC := hC.below bY2 hC.lt
 replace q1 := q1.below bY2
 replace q2 := q2.below bY2
 replace q3 := q3.below bY2
 replace q4 := q4.below bY2
 replace hB := hB.trans (bY2.mono hB.size)
 have hgw : w.heap.size ≤ g := by omega
 have EY := Lib.hid (And.intro hg (And.intro eY0 (And.intro eY1 eY2)))
 clear hg eY0 zY0 eY1 zY1 eY2 zY2
 obtain ⟨c0, c1, c2, c3, c4, c5⟩ := hA.q6
 obtain ⟨c6, c7, c8, c9, c10, c11⟩ := hC.q6
 obtain ⟨c12, c13, c14, c15, c16, c17⟩ := hR.q6
 go_enter Tryz.func89, Tryz.ntmps89
 go_upto_region 1 with fail
 rw [← EY.out.2.1, ← EY.out.2.2.1, ← EY.out.2.2.2, ← EY.out.1]
 replace hB := hB.drew
 replace q1 := q1.below (bdrew _)
 replace q2 := q2.below (bdrew _)
 replace q3 := q3.below (bdrew _)
 replace q4 := q4.below (bdrew _)
 replace hA := hA.drew
 replace hC := hC.drew
 replace hR := hR.drew
 clear c0 c1 c2 c3 c4 c5 c6 c7 c8 c9 c10 c11 c12 c13 c14 c15 c16 c17
 refine wp_region_noPanic ?_
 refine wp_region_held_drew (S := fun w' => w'.cell? ⟨g, 0, none⟩ = some (.bool s1) ∧ w'.cell? ⟨g, 1, none⟩ = some (.slice A1 L1 C1) ∧ w'.cell? ⟨g, 2, none⟩ = some (.slice D1 M1 E1) ∧ w'.cell? ⟨g, 3, none⟩ = some (.bool s2) ∧ w'.cell? ⟨g, 4, none⟩ = some (.slice A2 L2 C2) ∧ w'.cell? ⟨g, 5, none⟩ = some (.slice D2 M2 E2) ∧ w'.cell? ⟨g + 1, 0, none⟩ = some (.bool s3) ∧ w'.cell? ⟨g + 1, 1, none⟩ = some (.slice A3 L3 C3) ∧ w'.cell? ⟨g + 1, 2, none⟩ = some (.slice D3 M3 E3) ∧ w'.cell? ⟨g + 1, 3, none⟩ = some (.bool s4) ∧ w'.cell? ⟨g + 1, 4, none⟩ = some (.slice A4 L4 C4) ∧ w'.cell? ⟨g + 1, 5, none⟩ = some (.slice D4 M4 E4)) (by kernel_rfl) ?_ (fun hHeld => ?_)
 · exact ⟨hA.cell 0, hA.cell 1, hA.cell 2, hA.cell 3, hA.cell 4, hA.cell 5, hC.cell 0, hC.cell 1, hC.cell 2, hC.cell 3, hC.cell 4, hC.cell 5⟩
 obtain ⟨wd1_1, hwd⟩ : ∃ q, q = Y2.drew := ⟨_, rfl⟩
 rw [← hwd] at hB q1 q2 q3 q4 hA hC hR hHeld ⊢
 clear hwd
 refine tkH 0 rfl (v := ?v1) ?h1 ?r1
 case h1 => intro w hSw; (try dsimp only at hSw); go_simp; try (with_reducible rfl)
 refine tkH 1 rfl (v := ?v2) ?h2 ?r2
 case h2 => intro w hSw; (try dsimp only at hSw); go_simp; try (with_reducible rfl)
 refine tkH 2 rfl (v := ?v3) ?h3 ?r3
 case h3 => intro w hSw; (try dsimp only at hSw); go_simp; try (with_reducible rfl)
 refine tkH 3 rfl (v := ?v4) ?h4 ?r4
 case h4 => intro w hSw; (try dsimp only at hSw); go_simp; try (with_reducible rfl)
 refine tkH 5 rfl (v := ?v5) ?h5 ?r5
 case h5 => intro w hSw; (try dsimp only at hSw); go_simp; try (with_reducible rfl)
 refine tkH 6 rfl (v := ?v6) ?h6 ?r6
 case h6 => intro w hSw; (try dsimp only at hSw); go_simp; try (with_reducible rfl)
 refine tkH 7 rfl (v := ?v7) ?h7 ?r7
 case h7 => intro w hSw; (try dsimp only at hSw); go_simp; try (with_reducible rfl)
 refine tkH 8 rfl (v := ?v8) ?h8 ?r8
 case h8 => intro w hSw; (try dsimp only at hSw); go_simp; try (with_reducible rfl)
 refine tkH 10 rfl (v := ?v9) ?h9 ?r9
 case h9 => intro w hSw; (try dsimp only at hSw); go_simp; try (with_reducible rfl)
 refine tkH 11 rfl (v := ?v10) ?h10 ?r10
 case h10 => intro w hSw; (try dsimp only at hSw); go_simp; try (with_reducible rfl)
 refine tkH 12 rfl (v := ?v11) ?h11 ?r11
 case h11 => intro w hSw; (try dsimp only at hSw); go_simp; try (with_reducible rfl)
 refine tkH 13 rfl (v := ?v12) ?h12 ?r12
 case h12 => intro w hSw; (try dsimp only at hSw); go_simp; try (with_reducible rfl)
 refine tkH 15 rfl (v := ?v13) ?h13 ?r13
 case h13 => intro w hSw; (try dsimp only at hSw); go_simp; try (with_reducible rfl)
 refine tkH 16 rfl (v := ?v14) ?h14 ?r14
 case h14 => intro w hSw; (try dsimp only at hSw); go_simp; try (with_reducible rfl)
 refine tkH 17 rfl (v := ?v15) ?h15 ?r15
 case h15 => intro w hSw; (try dsimp only at hSw); go_simp; try (with_reducible rfl)
 refine tkH 18 rfl (v := ?v16) ?h16 ?r16
 case h16 => intro w hSw; (try dsimp only at hSw); go_simp; try (with_reducible rfl)
 try simp only [Act.put, lay1, lay2, lay3, lay4, lay5, lay6]
 refine rd1 4 rfl fun K hK => ?_
 go_simp
 refine (hM1 _ _ _ q1 q3).mono ?_
 rintro e u1_1 ⟨v5, rfl, q5, b1_1⟩
 replace q1 := q1.below b1_1
 replace q2 := q2.below b1_1
 replace q3 := q3.below b1_1
 replace q4 := q4.below b1_1
 replace hA := hA.below b1_1 hA.lt
 replace hC := hC.below b1_1 hC.lt
 replace hR := hR.below b1_1 hR.lt
 replace hB := hB.trans (b1_1.mono hB.size)
 obtain ⟨s5, A5, L5, C5, D5, M5, E5, rfl, q5⟩ := q5.opn
 go_wp2_with fail
 refine hK.out _ _ ?_ (fun hHeld => ?_)
 · exact ⟨hA.cell 0, hA.cell 1, hA.cell 2, hA.cell 3, hA.cell 4, hA.cell 5, hC.cell 0, hC.cell 1, hC.cell 2, hC.cell 3, hC.cell 4, hC.cell 5⟩
 clear hK K
 try simp only [Act.put, lay1, lay2, lay3, lay4, lay5, lay6]
 refine rd1 9 rfl fun K hK => ?_
 go_simp
 refine (hM2 _ _ _ q1 q4).mono ?_
 rintro e u1_2 ⟨v6, rfl, q6, b1_2⟩
 replace q1 := q1.below b1_2
 replace q2 := q2.below b1_2
 replace q3 := q3.below b1_2
 replace q4 := q4.below b1_2
 replace hA := hA.below b1_2 hA.lt
 replace hC := hC.below b1_2 hC.lt
 replace hR := hR.below b1_2 hR.lt
 replace q5 := q5.below b1_2
 replace hB := hB.trans (b1_2.mono hB.size)
 obtain ⟨s6, A6, L6, C6, D6, M6, E6, rfl, q6⟩ := q6.opn
 go_wp2_with fail
 refine hK.out _ _ ?_ (fun hHeld => ?_)
 · exact ⟨hA.cell 0, hA.cell 1, hA.cell 2, hA.cell 3, hA.cell 4, hA.cell 5, hC.cell 0, hC.cell 1, hC.cell 2, hC.cell 3, hC.cell 4, hC.cell 5⟩
 clear hK K
 try simp only [Act.put, lay1, lay2, lay3, lay4, lay5, lay6]
 refine rd1 14 rfl fun K hK => ?_
 go_simp
 refine (hM3 _ _ _ q2 q3).mono ?_
 rintro e u1_3 ⟨v7, rfl, q7, b1_3⟩
 replace q1 := q1.below b1_3
 replace q2 := q2.below b1_3
 replace q3 := q3.below b1_3
 replace q4 := q4.below b1_3
 replace hA := hA.below b1_3 hA.lt
 replace hC := hC.below b1_3 hC.lt
 replace hR := hR.below b1_3 hR.lt
 replace q5 := q5.below b1_3
 replace q6 := q6.below b1_3
 replace hB := hB.trans (b1_3.mono hB.size)
 obtain ⟨s7, A7, L7, C7, D7, M7, E7, rfl, q7⟩ := q7.opn
 go_wp2_with fail
 refine hK.out _ _ ?_ (fun hHeld => ?_)
 · exact ⟨hA.cell 0, hA.cell 1, hA.cell 2, hA.cell 3, hA.cell 4, hA.cell 5, hC.cell 0, hC.cell 1, hC.cell 2, hC.cell 3, hC.cell 4, hC.cell 5⟩
 clear hK K
 try simp only [Act.put, lay1, lay2, lay3, lay4, lay5, lay6]
 refine rd1 19 rfl fun K hK => ?_
 go_simp
 refine (hM4 _ _ _ q2 q4).mono ?_
 rintro e u1_4 ⟨v8, rfl, q8, b1_4⟩
 replace q1 := q1.below b1_4
 replace q2 := q2.below b1_4
 replace q3 := q3.below b1_4
 replace q4 := q4.below b1_4
 replace hA := hA.below b1_4 hA.lt
 replace hC := hC.below b1_4 hC.lt
 replace hR := hR.below b1_4 hR.lt
 replace q5 := q5.below b1_4
 replace q6 := q6.below b1_4
 replace q7 := q7.below b1_4
 replace hB := hB.trans (b1_4.mono hB.size)
 obtain ⟨s8, A8, L8, C8, D8, M8, E8, rfl, q8⟩ := q8.opn
 go_wp2_with fail
 refine hK.out _ _ ?_ (fun hHeld => ?_)
 · exact ⟨hA.cell 0, hA.cell 1, hA.cell 2, hA.cell 3, hA.cell 4, hA.cell 5, hC.cell 0, hC.cell 1, hC.cell 2, hC.cell 3, hC.cell 4, hC.cell 5⟩
 clear hK K
 try simp only [Act.put, lay1, lay2, lay3, lay4, lay5, lay6]
 refine rd1 20 rfl fun K hK => ?_
 obtain ⟨u1_5, eu, hS, bS⟩ := box1 u1_4 32 #[.bool s5, .slice A5 L5 C5, .slice D5 M5 E5, .bool s6, .slice A6 L6 C6, .slice D6 M6 E6, .bool s7, .slice A7 L7 C7, .slice D7 M7 E7, .bool s8, .slice A8 L8 C8, .slice D8 M8 E8]
 obtain ⟨XS, en⟩ : ∃ X, X = u1_4.heap.size := ⟨_, rfl⟩
 rw [← en] at hS
 have EUS := Lib.hid (And.intro eu en)
 clear eu en
 go_simp
 rw [← EUS.out.1, ← EUS.out.2]
 replace hA := hA.below bS hA.lt
 replace hC := hC.below bS hC.lt
 replace hR := hR.below bS hR.lt
 replace q5 := q5.below bS
 replace q6 := q6.below bS
 replace q7 := q7.below bS
 replace q8 := q8.below bS
 replace hB := hB.trans (bS.mono hB.size)
 have hL : IsQs u1_5 (.slice (some ⟨XS, 0, none⟩) 4 4) [r1, r2, r3, r4] := IsQs.of_blk (es := [(s5, .slice A5 L5 C5, .slice D5 M5 E5), (s6, .slice A6 L6 C6, .slice D6 M6 E6), (s7, .slice A7 L7 C7, .slice D7 M7 E7), (s8, .slice A8 L8 C8, .slice D8 M8 E8)]) (rs := [r1, r2, r3, r4]) hS ((((OkQ.nil _).snoc q5).snoc q6).snoc q7 |>.snoc q8) (by simp)
 clear hS bS
 refine hK.out _ _ ?_ (fun hHeld => ?_)
 · exact ⟨hA.cell 0, hA.cell 1, hA.cell 2, hA.cell 3, hA.cell 4, hA.cell 5, hC.cell 0, hC.cell 1, hC.cell 2, hC.cell 3, hC.cell 4, hC.cell 5⟩
 clear hK K
 try simp only [Act.put, lay1, lay2, lay3, lay4, lay5, lay6]
 refine rd1 21 rfl fun K hK => ?_
 go_simp
 refine (hAr _ _ hL).mono ?_
 rintro e u1_6 ⟨v9, rfl, h9, b9⟩
 obtain ⟨s9, A9, L9, C9, D9, M9, E9, s10, A10, L10, C10, D10, M10, E10, rfl, q9, q10⟩ := h9.opn
 replace hA := hA.below b9 hA.lt
 replace hC := hC.below b9 hC.lt
 replace hR := hR.below b9 hR.lt
 replace hB := hB.trans (b9.mono hB.size)
 clear hL
 go_wp2_with fail
 refine hK.out _ _ ?_ (fun hHeld => ?_)
 · exact ⟨hA.cell 0, hA.cell 1, hA.cell 2, hA.cell 3, hA.cell 4, hA.cell 5, hC.cell 0, hC.cell 1, hC.cell 2, hC.cell 3, hC.cell 4, hC.cell 5⟩
 clear hK K
 try simp only [Act.put, lay1, lay2, lay3, lay4, lay5, lay6]
 refine rd1 22 rfl fun K hK => ?_
 obtain ⟨u1_7, eu, hR', kz, kb, kB⟩ := fill6 hR (.bool s9) (.slice A9 L9 C9) (.slice D9 M9 E9) (.bool s10) (.slice A10 L10 C10) (.slice D10 M10 E10) (by simp [noU])
 have x0 : World.cell? _ ⟨g + 1 + 1, 0, none⟩ = some (.bool false) := hR.cell 0
 have x1 : World.cell? _ ⟨g + 1 + 1, 1, none⟩ = some (.slice none 0 0) := hR.cell 1
 have x2 : World.cell? _ ⟨g + 1 + 1, 2, none⟩ = some (.slice none 0 0) := hR.cell 2
 have x3 : World.cell? _ ⟨g + 1 + 1, 3, none⟩ = some (.bool false) := hR.cell 3
 have x4 : World.cell? _ ⟨g + 1 + 1, 4, none⟩ = some (.slice none 0 0) := hR.cell 4
 have x5 : World.cell? _ ⟨g + 1 + 1, 5, none⟩ = some (.slice none 0 0) := hR.cell 5
 have xf := hR.frozen
 go_simp
 rw [← eu]
 replace hA := kb _ _ _ hA (by omega)
 replace hC := kb _ _ _ hC (by omega)
 replace q9 := q9.filled kz
 replace q10 := q10.filled kz
 replace hB := kB _ _ (by omega) hB
 replace hR := hR'
 clear hR' kz kb kB eu xf x0 x1 x2 x3 x4 x5
 refine hK.out _ _ ?_ (fun hHeld => ?_)
 · exact ⟨hA.cell 0, hA.cell 1, hA.cell 2, hA.cell 3, hA.cell 4, hA.cell 5, hC.cell 0, hC.cell 1, hC.cell 2, hC.cell 3, hC.cell 4, hC.cell 5⟩
 clear hK K
 try simp only [Act.put, lay1, lay2, lay3, lay4, lay5, lay6]
 try dsimp only
 try simp only [Act.put, lay1, lay2, lay3, lay4, lay5, lay6]
 refine wpAnyH_done (by kernel_rfl) ?_ _
 refine NoPanic.normal ?_
 skip
 obtain ⟨c18, c19, c20, c21, c22, c23⟩ := hA.q6
 obtain ⟨c24, c25, c26, c27, c28, c29⟩ := hC.q6
 obtain ⟨c30, c31, c32, c33, c34, c35⟩ := hR.q6
 go_wp2_with fail
 exact bodyPost_ret (v := .agg #[.bool s9, .slice A9 L9 C9, .slice D9 M9 E9, .bool s10, .slice A10 L10 C10, .slice D10 M10 E10]) (by simp [results, Tryz.results89, go_sem, c30, c31, c32, c33, c34, c35]) rfl ⟨_, rfl, ⟨_, _, _, _, _, _, rfl, q9, q10⟩, hB⟩
set_option maxRecDepth 100000 in
set_option maxHeartbeats 8000000 in
theorem rivof_any (v : Value) (a : Rat) (w : World) (h : IsQ w v a) :
   Calls Tryz.prog 34 #[v] w fun e w' => ∃ v', e = .returned v' ∧ IsS w' v' a a ∧ Below w.heap.size w w' := by
 obtain ⟨s1, A1, L1, C1, D1, M1, E1, rfl, q1⟩ := h.opn
 clear h
 obtain ⟨g, hg⟩ : ∃ g, g = w.heap.size := ⟨_, rfl⟩
 obtain ⟨Y0, eY0, hA, bY0⟩ := box1 w 32 #[.bool s1, .slice A1 L1 C1, .slice D1 M1 E1]
 have zY0 : Y0.heap.size = g + 1 := by rw [eY0, World.size_alloc, ← hg]
 rw [← hg] at hA
 replace q1 := q1.below bY0
 have hB := bY0
 obtain ⟨Y1, eY1, hR, bY1⟩ := box1 Y0 46 #[.bool s1, .slice A1 L1 C1, .slice D1 M1 E1, .bool s1, .slice A1 L1 C1, .slice D1 M1 E1]
 have zY1 : Y1.heap.size = g + 1 + 1 := by rw [eY1, World.size_alloc, zY0]
 rw [zY0] at hR
 replace hA := hA.below bY1 hA.lt
 replace q1 := q1.below bY1
 replace hB := hB.trans (bY1.mono hB.size)
 have hgw : w.heap.size ≤ g := by omega
 have EY := Lib.hid (And.intro hg (And.intro eY0 eY1))
 clear hg eY0 zY0 eY1 zY1
 obtain ⟨c0, c1, c2⟩ := hA.q3
 obtain ⟨c3, c4, c5, c6, c7, c8⟩ := hR.q6
 go_enter Tryz.func34, Tryz.ntmps34
 go_wp2_with fail
 rw [← EY.out.2.1, ← EY.out.2.2, ← EY.out.1]
 exact bodyPost_ret (v := .agg #[.bool s1, .slice A1 L1 C1, .slice D1 M1 E1, .bool s1, .slice A1 L1 C1, .slice D1 M1 E1]) (by simp [results, Tryz.results34, go_sem, c3, c4, c5, c6, c7, c8]) rfl ⟨_, rfl, ⟨_, _, _, _, _, _, rfl, q1, q1⟩, by rw [EY.out.1]; exact hB⟩
end Go.Proofs.YtdnjdglekifhpaaGreat
