/- A part of the proof of: Bounds of what is kept, a bound a step on, and a number with what is so near, are as the document says. No conditions: every input. -/
import Derived.Deep.RegionHeld3
import Derived.OrdersHeld
import Derived.Below
import Derived.Test.YtdnjdglekifhpaaGreatChecked
import Derived.WalkKit
import Derived.Laws.OwnMore
import Derived.Deep.AppendLies
import Derived.Deep.Draws
import Derived.Lib.Hide
import Derived.Deep.QuietTactic
import Derived.Tactics
import Derived.BigQuiet
import Derived.Laws.Rows
import Derived.Laws.AppendOwn
import Derived.Maps.AppendAt
import Derived.RegionTactic
import Derived.OwnWalk
import Derived.Outline
import Derived.LoopTactic
import Derived.StillTailTactics
import Derived.Laws.MakeOwn
import Derived.ChangeKeysEq
import Derived.Laws.StructEq
import Derived.Deep.RegionLaw
import Derived.Deep.DeepMust
import Derived.Laws.Externs
import Derived.Shelf.Bits.Mul64
import Derived.Shelf.Strconv.Itoa0
import Derived.Deep.DrawnRows
import Derived.Deep.LoopGhost
import Derived.Deep.DeepCutAuto
import Derived.Laws.BytesArg
import Derived.Lib.Bytes
import Derived.Handy
import Derived.Lib.SliceRun
import Derived.Test.YtdnjdglekifhpaaGreatRows
import Derived.ChangeSame
import Derived.ProofKit
import Derived.SizedLaws
import Derived.Carry
import Derived.OpenShut
import Derived.Lib.SmallJoins
import Derived.Deep.Slices
import Derived.Laws.Shifts
import Derived.Laws.BitsAllLaws
import Derived.Laws.BitsLemmas
import Derived.Deep.CutBlock
import Derived.WalkMore
import Derived.RangeFuncWrites
import Derived.RangeFuncNested
import Derived.RangeFuncBound
import Derived.RangeFuncCalls
import Derived.RangeFuncLeaves
import Derived.Shelf.Abstract
import Derived.Shelf.RegionOpen
import Derived.OwnWalkIn
import Derived.TacticsInMore
import Derived.LoopNIn
import Derived.LoopIn
import Derived.RangeFuncBox
import Derived.RangeFuncFrom
import Derived.StillTail
import Derived.StillTactics
import Derived.OrdersIn
import Derived.TacticsIn
import Derived.CallsIn
import Derived.Laws.EntriesVeiled
import Derived.Deep.RegionHeld
import Derived.Shelf.SortG.Plain
import Derived.Deep.RegionWith
import Derived.Sort.QuietIn
import Derived.Lib.MinMax
import Derived.Maps.OwnIn
import Derived.Test.YtdnjdglekifhpaaGreatTxg
namespace Go.Proofs.YtdnjdglekifhpaaGreat
theorem tkS {P : Program} {ops : Array Oper} {Q : Exit → Act → World → Prop} {md : Region.Mode} {S : World → Prop} (i : Nat) {oi : Oper} (hi : ops[i]? = some oi) {fuel : Nat} {listed : Array Bool} {a : Act} {w : World}
    (h : wpAnyH P md ops Q S fuel (listed.setIfInBounds i true) (a.put oi.dst undef) w)
    (hs : Region.noSelect ops = true := by kernel_rfl) (hf : Region.free md ops listed i = true := by kernel_rfl) (hr : (Region.ready md ops listed).contains i = true := by kernel_rfl)
    (hQ : ∀ c a w, Q (.panic c) (a.put oi.dst undef) w → Q (.panic c) a w := by exact fun _ _ _ h => h) (hw : Region.wanted oi (yielded ops a.tmps) = false := by kernel_rfl) (hS : S w := by assumption) : wpAnyH P md ops Q S (fuel + 1) listed a w :=
  wpAnyH_take hi hs hf hr hQ (.inr ⟨hw, rfl⟩) hS h
end Go.Proofs.YtdnjdglekifhpaaGreat
namespace Go.Proofs.YtdnjdglekifhpaaGreat
end Go.Proofs.YtdnjdglekifhpaaGreat
namespace Go.Proofs.YtdnjdglekifhpaaGreat
end Go.Proofs.YtdnjdglekifhpaaGreat
namespace Go.Proofs.YtdnjdglekifhpaaGreat
end Go.Proofs.YtdnjdglekifhpaaGreat
namespace Go.Proofs.YtdnjdglekifhpaaGreat
end Go.Proofs.YtdnjdglekifhpaaGreat
namespace Go.Proofs.YtdnjdglekifhpaaGreat
theorem nuh_split (l : List Nat) (k : Nat) (h : k ≤ l.length) : nuh l = nuh (l.take k) + H32 ^ k * nuh (l.drop k) := by
  have := nuh_append (l.take k) (l.drop k)
  rw [List.take_append_drop, List.length_take, Nat.min_eq_left h] at this
  exact this
theorem nuh_set (l : List Nat) (i v : Nat) (h : i < l.length) : nuh (l.set i v) + H32 ^ i * lat l i = nuh l + H32 ^ i * v := by
  have e1 := nuh_split l i (by omega)
  have e2 := nuh_split (l.set i v) i (by simp; omega)
  rw [drop_lat l i h, nuh] at e1
  rw [drop_lat (l.set i v) i (by simp; omega), nuh, lat_set, if_pos ⟨rfl, h⟩, List.take_set_of_le (Nat.le_refl _), List.drop_set_of_lt (by omega)] at e2
  rw [e1, e2]
  simp only [Nat.mul_add]
  omega
theorem nuh_zeros (n : Nat) : nuh (zeros n) = 0 := by
  unfold zeros
  induction n with
  | zero => rfl
  | succ n ih => rw [List.replicate_succ, nuh, ih]; simp
theorem hmul_digit {x y o c n : Nat} (hx : x < H32) (hy : y < H32) (ho : o < H32) (hc : c < H32) (e : n = o + x * y + c) : n < W64 ∧ n % H32 + H32 * (n / H32) = x * y + o + c ∧ n / H32 < H32 ∧ o + x * y < W64 := by
  have hp : x * y ≤ (H32 - 1) * (H32 - 1) := Nat.mul_le_mul (by omega) (by omega)
  have hp2 : (H32 - 1) * (H32 - 1) + 2 * (H32 - 1) + 1 = H32 * H32 := by unfold H32; rfl
  refine ⟨by rw [W64_H32]; omega, by rw [Nat.mod_add_div, e]; omega, ?_, by rw [W64_H32]; omega⟩
  rw [Nat.div_lt_iff_lt_mul H32_pos]; omega
theorem hmul_inner {l b : List Nat} {i k N x c o s2 r : Nat} (hl : i + k < l.length) (ho : o = lat l (i + k)) (hinv : nuh l + H32 ^ (i + k) * c = N + H32 ^ i * (x * nuh (b.take k))) (hd : s2 + H32 * r = x * lat b k + o + c) :
    nuh (l.set (i + k) s2) + H32 ^ (i + k + 1) * r = N + H32 ^ i * (x * nuh (b.take (k + 1))) := by
  have e1 := nuh_set l (i + k) s2 hl
  rw [← ho] at e1
  rw [nuh_take_succ, Nat.mul_add x, Nat.mul_add (H32 ^ i), ← Nat.add_assoc, ← hinv, Nat.pow_succ]
  have e2 := congrArg (H32 ^ (i + k) * ·) hd
  simp only [Nat.mul_add] at e2
  have e3 : H32 ^ i * (x * (H32 ^ k * lat b k)) = H32 ^ (i + k) * (x * lat b k) := by
    rw [Nat.pow_add, Nat.mul_left_comm x, Nat.mul_assoc]
  have e4 : H32 ^ (i + k) * H32 * r = H32 ^ (i + k) * (H32 * r) := by rw [Nat.mul_assoc]
  rw [e3, e4]
  omega
theorem hmul_outer {l a b : List Nat} {i c : Nat} (hl : i + b.length < l.length) (h0 : lat l (i + b.length) = 0) (hinv : nuh l + H32 ^ (i + b.length) * c = nuh (a.take i) * nuh b + H32 ^ i * (lat a i * nuh b)) :
    nuh (l.set (i + b.length) c) = nuh (a.take (i + 1)) * nuh b := by
  have e1 := nuh_set l (i + b.length) c hl
  rw [h0] at e1
  rw [nuh_take_succ, Nat.add_mul, Nat.mul_assoc, ← hinv]
  omega
end Go.Proofs.YtdnjdglekifhpaaGreat
namespace Go.Proofs.YtdnjdglekifhpaaGreat
open Go.RowKit
theorem nat_ne0 (x : Nat) : (((x : Nat) : Int) != 0) = !decide (x = 0) := by
  rcases Nat.eq_zero_or_pos x with h | h
  · subst h; rfl
  · rw [bne_iff_ne.2 (by omega), decide_eq_false (by omega)]; rfl
end Go.Proofs.YtdnjdglekifhpaaGreat
namespace Go.Proofs.YtdnjdglekifhpaaGreat
open Go.RowKit
end Go.Proofs.YtdnjdglekifhpaaGreat
namespace Go.Proofs.YtdnjdglekifhpaaGreat
open Go.RowKit
end Go.Proofs.YtdnjdglekifhpaaGreat
namespace Go.Proofs.YtdnjdglekifhpaaGreat
open Go.RowKit
end Go.Proofs.YtdnjdglekifhpaaGreat
namespace Go.Proofs.YtdnjdglekifhpaaGreat
open Go.RowKit
theorem iat_snoc_take (l : List Int) (k : Nat) (h : k < l.length) : l.take (k + 1) = l.take k ++ [iat l k] := by
  rw [List.take_succ_eq_append_getElem h]; simp [iat, h]
end Go.Proofs.YtdnjdglekifhpaaGreat
namespace Go.Proofs.YtdnjdglekifhpaaGreat
open Go.RowKit
end Go.Proofs.YtdnjdglekifhpaaGreat
namespace Go.Proofs.YtdnjdglekifhpaaGreat
open Go.RowKit
set_option maxHeartbeats 400000 in
theorem rright_any (v : Value) (l : List Nat) (w : World) (h : IsL w v l) :
    Calls Tryz.prog 115 #[v] w fun e w' => e = .returned (.bool (decide (l = [] ∨ lat l (l.length - 1) ≠ 0))) ∧ w = w' := by
  obtain ⟨A, c, rfl, hlc, hc, hbd, hr⟩ := h
  by_cases hl : l = []
  · subst hl
    go_enter Tryz.func115, Tryz.ntmps115
    go_wp2
    go_ret
    exact ⟨rfl, rfl⟩
  · have h0 : 0 < l.length := List.length_pos_iff.2 hl
    obtain ⟨ad, rfl, hb, hcell⟩ := us_cell hr (k := l.length - 1) (by omega)
    go_enter Tryz.func115, Tryz.ntmps115
    go_wp2
    go_ret
    have e : ((l.length : Int) == 0) = false := by simp [hl]
    exact ⟨ret_bool (by rw [e, nat_ne0]; simp [hl]), rfl⟩
end Go.Proofs.YtdnjdglekifhpaaGreat
namespace Go.Proofs.YtdnjdglekifhpaaGreat
open Go.RowKit
end Go.Proofs.YtdnjdglekifhpaaGreat
namespace Go.Proofs.YtdnjdglekifhpaaGreat
open Go.RowKit Go.ChangeShapes
end Go.Proofs.YtdnjdglekifhpaaGreat
namespace Go.Proofs.YtdnjdglekifhpaaGreat
open Go.RowKit
end Go.Proofs.YtdnjdglekifhpaaGreat
namespace Go.Proofs.YtdnjdglekifhpaaGreat
open Go.RowKit
theorem whole_any (v : Value) (l : List Nat) (w : World) (h : IsL w v l) (hh : Bh l) (hl : l.length ≤ 5000000) :
    Calls Tryz.prog 140 #[v] w fun e w' => ∃ v', e = .returned v' ∧ IsN w' v' (nuh l) ∧ Below w.heap.size w w' :=
  (whole_f v l w h hh hl).mono fun _ _ ⟨v', h1, h2, h3, _⟩ => ⟨v', h1, h2, h3⟩
theorem radd_any (va vb : Value) (a b : Nat) (w : World) (ha : IsN w va a) (hb : IsN w vb b) (hla : (limbs a).length ≤ 1000000) (hlb : (limbs b).length ≤ 1000000) :
    Calls Tryz.prog 137 #[va, vb] w fun e w' => ∃ v', e = .returned v' ∧ IsN w' v' (a + b) ∧ Below w.heap.size w w' :=
  (radd_f va vb a b w ha hb hla hlb).mono fun _ _ ⟨v', h1, h2, h3, _⟩ => ⟨v', h1, h2, h3⟩
end Go.Proofs.YtdnjdglekifhpaaGreat
namespace Go.Proofs.YtdnjdglekifhpaaGreat
open Go.RowKit
theorem rsub_any (va vb : Value) (a b : Nat) (w : World) (ha : IsN w va a) (hb : IsN w vb b) (hla : (limbs a).length ≤ 1000000) (hlb : (limbs b).length ≤ 1000000) (hle : b ≤ a) :
    Calls Tryz.prog 138 #[va, vb] w fun e w' => ∃ v', e = .returned (.tuple #[v', .int .i64 0]) ∧ IsN w' v' (a - b) ∧ Below w.heap.size w w' :=
  (rsub_f va vb a b w ha hb hla hlb hle).mono fun _ _ ⟨v', h1, h2, h3, _⟩ => ⟨v', h1, h2, h3⟩
set_option maxRecDepth 100000 in
set_option maxHeartbeats 2000000 in
theorem rmul_any (va vb : Value) (na nb : Nat) (w : World) (ha : IsN w va na) (hb : IsN w vb nb) (hla : (limbs na).length ≤ 1000000) (hlb : (limbs nb).length ≤ 1000000) :
    Calls Tryz.prog 73 #[va, vb] w fun e w' => ∃ v', e = .returned v' ∧ IsN w' v' (na * nb) ∧ Below w.heap.size w w' := by
  have eab : nuh (hv (limbs na)) * nuh (hv (limbs nb)) = na * nb := by rw [nuh_hv, nuh_hv, num_limbs, num_limbs]
  have HA := Lib.hid (halves2 va _ w ha hla)
  have HB := Lib.hid (fun W (h : Below w.heap.size w W) => halves2 vb _ W (hb.below h) hlb)
  have la := hv_len (limbs na)
  have lb := hv_len (limbs nb)
  rw [← eab]
  obtain ⟨a, hx⟩ : ∃ x, x = hv (limbs na) := ⟨_, rfl⟩
  obtain ⟨b, hy⟩ : ∃ y, y = hv (limbs nb) := ⟨_, rfl⟩
  rw [← hx] at HA la ⊢
  rw [← hy] at HB lb ⊢
  have lx : a.length ≤ 2000000 := by omega
  have ly : b.length ≤ 2000000 := by omega
  clear hx hy eab la lb ha hb
  have hmk := run_make_u64 27 Tryz.underlying27 (a.length + b.length + 1) ((a.length : Int) + (b.length : Int) + 1) (by omega) (by omega)
  go_enter Tryz.func73, Tryz.ntmps73
  go_wp2_with fail
  refine HA.out.mono ?_
  rintro e w1 ⟨A, ca, rfl, hca, hba, hra, hb1⟩
  go_wp2_with fail
  refine (HB.out _ hb1).mono ?_
  rintro e w2 ⟨B, cb, rfl, hcb, hbb, hrb, hb2⟩
  have hra := (hra.below hb2).more hb2.size
  have hbw := hb1.trans (hb2.mono hb1.size)
  clear hb1 hb2
  have a0 := Arr.new w2 (zeros (a.length + b.length + 1))
  have hB0 : Below w2.heap.size w2 (w2.alloc (.cells (us (zeros (a.length + b.length + 1))).toArray 141)) := (Below.refl _ w2).alloc (Nat.le_refl _) _
  go_wp2
  go_loopw [8] (fun i wr => ∃ (k : Nat) (l : List Nat), k ≤ a.length ∧ i = .int .i64 k ∧ Arr wr w2.heap.size l ∧ Hid (l.length = a.length + b.length + 1) ∧ Bh l ∧ Hid (nuh l = nuh (a.take k) * nuh b) ∧ Hid (∀ j, k + b.length ≤ j → lat l j = 0) ∧ Below w2.heap.size w2 wr) (fun i _ => a.length - (intOf i).toNat)
  case atStart => exact ⟨0, zeros (a.length + b.length + 1), Nat.zero_le _, rfl, a0, zeros_len _, Bh.zeros _, Lib.hid (by rw [nuh_zeros]; simp [nuh]), Lib.hid (fun j _ => lat_zeros _ _), hB0⟩
  case round =>
    obtain ⟨k, l, hk, rfl, hA, hlen, hbl, hnum, hz, hB⟩ := hrel
    by_cases hlt : k < a.length
    · obtain ⟨ad, rfl, _, hxc⟩ := us_cell (hra.below hB) hlt
      have hx64 := hba.lat k
      have hxi := hbound hba k
      obtain ⟨x, hx⟩ : ∃ x, x = lat a k := ⟨_, rfl⟩
      rw [← hx] at hxc hx64 hxi
      have Hx := Lib.hid hx
      clear hx
      go_wp2
      go_loopw [9, 10] (fun cy i wi => ∃ (m c : Nat) (l' : List Nat), m ≤ b.length ∧ cy = .int .u64 c ∧ i = .int .i64 m ∧ c < H32 ∧ Arr wi w2.heap.size l' ∧ Hid (l'.length = a.length + b.length + 1) ∧ Bh l' ∧ Hid (nuh l' + H32 ^ (k + m) * c = nuh (a.take k) * nuh b + H32 ^ k * (x * nuh (b.take m))) ∧ Hid (∀ j, k + b.length ≤ j → lat l' j = 0) ∧ Below w2.heap.size w2 wi) (fun _ i _ => b.length - (intOf i).toNat)
      case atStart => exact ⟨0, 0, l, Nat.zero_le _, rfl, rfl, H32_pos, hA, hlen, hbl, Lib.hid (by rw [hnum.out]; simp [nuh]), hz, hB⟩
      case round =>
        obtain ⟨m, c, l', hm, rfl, rfl, hc64, hA', hlen', hbl', hinv, hz', hB'⟩ := hrel
        by_cases hmt : m < b.length
        · obtain ⟨bd, rfl, _, hyc⟩ := us_cell (hrb.below hB') hmt
          obtain ⟨_, e, _, hxc'⟩ := us_cell (hra.below hB') hlt
          obtain rfl := Option.some.inj e
          have hy64 := hbb.lat m
          obtain ⟨y, hy⟩ : ∃ y, y = lat b m := ⟨_, rfl⟩
          rw [← hy] at hyc hy64
          rw [← Hx.out] at hxc'
          have hoc := hA'.cell (i := k + m) (by rw [hlen'.out]; omega)
          have hof := hA'.frozen (k + m)
          have ho64 := hbl'.lat (k + m)
          obtain ⟨o, ho⟩ : ∃ o, o = lat l' (k + m) := ⟨_, rfl⟩
          rw [← ho] at hoc ho64
          obtain ⟨p, ep⟩ : ∃ p, p = x * y := ⟨_, rfl⟩
          obtain ⟨q, eq⟩ : ∃ q, q = o + p := ⟨_, rfl⟩
          obtain ⟨n, en⟩ : ∃ n, n = q + c := ⟨_, rfl⟩
          obtain ⟨d1, d2, d3, d4⟩ := hmul_digit hx64 hy64 ho64 hc64 (n := n) (by rw [en, eq, ep])
          rw [← ep] at d4
          have w0 : IntKind.u64.wrap ((x : Int) * (y : Int)) = (p : Int) := by
            rw [IntKind.wrap_u64, ← Int.natCast_mul, ← ep]; unfold W64 at d4; omega
          have w1 : IntKind.u64.wrap ((o : Int) + (p : Int)) = (q : Int) := by
            rw [IntKind.wrap_u64, eq]; unfold W64 at d4; omega
          have w2' : IntKind.u64.wrap ((q : Int) + (c : Int)) = (n : Int) := by
            rw [IntKind.wrap_u64, en]; unfold W64 at d1; omega
          have fin := Lib.hid (hmul_inner (i := k) (by rw [hlen'.out]; omega) ho hinv.out (by rw [← hy]; exact d2))
          have D := Lib.hid d3
          have hn64 := hide64 n d1
          clear ep eq en d1 d2 d3 d4 hx64 hy64 ho64 hc64 ho hy hinv
          go_wp2
          go_quiet (fail)
          go_wp2
          rw [hdiv, hmod]
          refine ⟨⟨m + 1, n / H32, l'.set (k + m) (n % H32), by omega, rfl, by go_num, D.out, (hA'.drewN _).set _ _, by rw [Hid, List.length_set]; exact hlen'.out, hbl'.set _ (Nat.mod_lt _ H32_pos), fin, ?_, (below_drewN hB' _).setCell (p := ⟨w2.heap.size, k + m, none⟩) (Nat.le_refl _) _⟩, by simp [intOf]; omega⟩
          refine Lib.hid (fun j hj => ?_)
          rw [lat_set, if_neg (by omega)]
          exact hz'.out j hj
        · obtain rfl : m = b.length := by omega
          have hi2 : k + b.length < l'.length := by rw [hlen'.out]; omega
          have hoc := hA'.cell hi2
          have hof := hA'.frozen (k + b.length)
          have fin := hmul_outer (a := a) (b := b) (i := k) (c := c) hi2 (hz'.out _ (Nat.le_refl _)) (by have := hinv.out; rwa [List.take_length, Hx.out] at this)
          have Fin := Lib.hid fin
          have C := Lib.hid hc64
          clear fin hi2 hc64
          go_wp2
          refine ⟨⟨k + 1, l'.set (k + b.length) c, by omega, by go_num, hA'.set _ _, by rw [Hid, List.length_set]; exact hlen'.out, hbl'.set _ C.out, Fin, ?_, hB'.setCell (p := ⟨w2.heap.size, k + b.length, none⟩) (Nat.le_refl _) _⟩, by simp [intOf]; omega⟩
          refine Lib.hid (fun j hj => ?_)
          rw [lat_set, if_neg (by omega)]
          exact hz'.out j (by omega)
    · obtain rfl : k = a.length := by omega
      have hres := hA.isL hbl.bd (by rw [hlen.out]; omega)
      have hl3 : l.length ≤ 5000000 := by rw [hlen.out]; omega
      rw [hlen.out] at hres
      have N := hnum.out
      rw [List.take_length] at N
      have N' := Lib.hid N
      clear N
      go_wp2_with fail
      refine (whole_any _ l _ hres hbl hl3).mono ?_
      rintro e w' ⟨r, rfl, hr, hb⟩
      go_wp2
      go_ret
      exact ⟨_, rfl, by rw [← N'.out]; exact hr, (hbw.trans (hB.mono hbw.size)).trans (hb.mono (Nat.le_trans hbw.size hB.size))⟩
end Go.Proofs.YtdnjdglekifhpaaGreat
namespace Go.Proofs
open Go.Shelf
end Go.Proofs
namespace Go.Proofs.YtdnjdglekifhpaaGreat
open Go.RowKit Go.Shelf
end Go.Proofs.YtdnjdglekifhpaaGreat
namespace Go.Proofs.YtdnjdglekifhpaaGreat
open Go.RowKit
end Go.Proofs.YtdnjdglekifhpaaGreat
namespace Go.Proofs.YtdnjdglekifhpaaGreat
open Go.RowKit
end Go.Proofs.YtdnjdglekifhpaaGreat
namespace Go.Proofs.YtdnjdglekifhpaaGreat
open Go.RowKit
attribute [local go_sem ↓] Go.wp_at_zero Go.wp_at_succ
end Go.Proofs.YtdnjdglekifhpaaGreat
namespace Go.Proofs.YtdnjdglekifhpaaGreat
open Go.RowKit
section
variable {w w' : World} {v : Value} {n R : Nat} {l : List Nat} {t t' : TypeId} {cs cs' : Array Value}
theorem Two.far3 {g : Nat} (h : Two w g t cs t' cs') (x y z : Value) : Two (((w.setCell ⟨g + 1 + 1, 0, none⟩ x).setCell ⟨g + 1 + 1, 1, none⟩ y).setCell ⟨g + 1 + 1, 2, none⟩ z) g t cs t' cs' :=
  ⟨((h.1.far1 (by omega) x).far1 (by omega) y).far1 (by omega) z, ((h.2.far1 (by omega) x).far1 (by omega) y).far1 (by omega) z⟩
theorem Blk.far3 {g : Nat} (h : Blk w g t cs) (x y z : Value) : Blk (((w.setCell ⟨g + 1, 0, none⟩ x).setCell ⟨g + 1, 1, none⟩ y).setCell ⟨g + 1, 2, none⟩ z) g t cs := ((h.far1 (by omega) x).far1 (by omega) y).far1 (by omega) z
end
end Go.Proofs.YtdnjdglekifhpaaGreat
namespace Go.Proofs.YtdnjdglekifhpaaGreat
open Go.RowKit
attribute [local go_sem ↓] Go.wp_at_zero Go.wp_at_succ
set_option maxHeartbeats 1000000 in
theorem rzneg_any (v : Value) (z : Int) (w : World) (h : IsZ w v z) :
    Calls Tryz.prog 142 #[v] w fun e w' => ∃ v', e = .returned v' ∧ IsZ w' v' (-z) ∧ Below w.heap.size w w' := by
  obtain ⟨nv, rfl, hn⟩ := h
  have hM := fun w hn => rmade_any (!decide (z < 0)) nv z.natAbs w hn
  have hz : sided (!decide (z < 0)) z.natAbs = -z := by
    unfold sided; by_cases h : z < 0 <;> simp [h] <;> omega
  rw [hz] at hM
  obtain ⟨c, hc⟩ : ∃ c, c = -z := ⟨_, rfl⟩
  rw [← hc] at hM ⊢
  clear hz hc
  generalize decide (z < 0) = b at *
  generalize z.natAbs = n at *
  obtain ⟨W0, hW, hT, hB⟩ := box2 w 30 30 #[.bool b, nv] #[.bool false, .slice none 0 0]
  have hn := hn.below hB
  obtain ⟨g, hg⟩ : ∃ g, g = w.heap.size := ⟨_, rfl⟩
  have hW' := Lib.hid (And.intro hW hg)
  rw [← hg] at hT
  clear hW hg
  go_enter Tryz.func142, Tryz.ntmps142
  go_wp2_with fail
  rw [← hW'.out.1, ← hW'.out.2]
  refine (hM _ hn).mono ?_
  rintro e w1 ⟨v1, rfl, ⟨n1, rfl, h1⟩, b1⟩
  obtain ⟨A1, L1, C1, rfl⟩ := h1.frm
  have hT := hT.below b1 hT.lt
  have hB := hB.trans (b1.mono hB.size)
  have hR := hT.2
  have q0 := hR.cell 0
  have q1 := hR.cell 1
  have z0 := hR.frozen 0
  have z1 := hR.frozen 1
  obtain ⟨p1, p2, p3⟩ := put2 hR (.bool (decide (c < 0))) (.slice A1 L1 C1) (by simp [noU]) hB (by rw [hW'.out.2]; omega)
  have P := Lib.hid (And.intro (p2 _ _ h1) p3)
  clear p1 p2 p3 hR hM
  go_wp2
  exact bodyPost_ret (v := .agg #[.bool (decide (c < 0)), .slice A1 L1 C1]) (by simp [results, Tryz.results142, go_sem, q0, q1]) rfl ⟨_, rfl, ⟨_, rfl, P.out.1⟩, P.out.2⟩
set_option maxHeartbeats 2000000 in
theorem rzmul_any (va vb : Value) (a b : Int) (w : World) (ha : IsZ w va a) (hb : IsZ w vb b) (sa : Sz a.natAbs 400000) (sb : Sz b.natAbs 400000) :
    Calls Tryz.prog 77 #[va, vb] w fun e w' => ∃ v', e = .returned v' ∧ IsZ w' v' (a * b) ∧ Below w.heap.size w w' := by
  obtain ⟨na, rfl, ha⟩ := ha
  obtain ⟨nb, rfl, hb⟩ := hb
  have hMul := fun w ha hb => rmul_any na nb a.natAbs b.natAbs w ha hb (sa.fin (by omega)) (sb.fin (by omega))
  have hM := fun v w hn => rmade_any (decide (a < 0) != decide (b < 0)) v (a.natAbs * b.natAbs) w hn
  have hz := mul_sided a b
  rw [hz] at hM
  obtain ⟨c, hc⟩ : ∃ c, c = a * b := ⟨_, rfl⟩
  rw [← hc] at hM ⊢
  clear hz hc
  generalize decide (a < 0) = s1 at *
  generalize decide (b < 0) = s2 at *
  generalize a.natAbs * b.natAbs = n at *
  generalize a.natAbs = x at *
  generalize b.natAbs = y at *
  obtain ⟨W0, hW, hT, hR, hB⟩ := box3 w 30 30 30 #[.bool s1, na] #[.bool s2, nb] #[.bool false, .slice none 0 0]
  have ha := ha.below hB
  have hb := hb.below hB
  obtain ⟨g, hg⟩ : ∃ g, g = w.heap.size := ⟨_, rfl⟩
  have hW' := Lib.hid (And.intro hW hg)
  rw [← hg] at hT hR
  clear hW hg
  go_enter Tryz.func77, Tryz.ntmps77
  go_wp2
  rw [← hW'.out.1, ← hW'.out.2]
  go_region_held3 (fun w' => w'.cell? ⟨g, 0, none⟩ = some (.bool s1) ∧ w'.cell? ⟨g, 1, none⟩ = some na ∧ w'.cell? ⟨g + 1, 0, none⟩ = some (.bool s2) ∧ w'.cell? ⟨g + 1, 1, none⟩ = some nb) (first | exact Two.cells22 (by assumption) | exact Two.cells22 (Two.far2 (by assumption) _ _))
    (first
      | (go_at_call 73; refine (hMul _ ?_ ?_).mono ?_; exact ha; exact hb; rintro x w1 ⟨v1, rfl, h1, b1⟩; have b1 := undrew b1; have hT1 := hT.below b1 hT.lt; have hR1 := hR.below b1 hR.lt; have hB1 := hB.trans (b1.mono hB.size))
      | (go_at_call 136; refine (hM _ _ ?_).mono ?_; exact h1; rintro x w2 ⟨v2, rfl, ⟨n2, rfl, h2⟩, b2⟩; obtain ⟨A2, L2, C2, rfl⟩ := h2.frm; have hT2 := hT1.below b2 hT1.lt; have hR2 := hR1.below b2 hR1.lt; have hB2 := hB1.trans (b2.mono hB1.size); have q0 := hR2.cell 0; have q1 := hR2.cell 1; have z0 := hR2.frozen 0; have z1 := hR2.frozen 1))
  obtain ⟨p1, p2, p3⟩ := put2 hR2 (.bool (decide (c < 0))) (.slice A2 L2 C2) (by simp [noU]) hB2 (by rw [hW'.out.2]; omega)
  have P := Lib.hid (And.intro (p2 _ _ h2) (And.intro p3 p1.cells2))
  clear p1 p2 p3
  go_wp2
  obtain ⟨P1, P2, P3, P4⟩ := P.out
  exact bodyPost_ret (v := .agg #[.bool (decide (c < 0)), .slice A2 L2 C2]) (by simp [results, Tryz.results77, go_sem, P3, P4]) rfl ⟨_, rfl, ⟨_, rfl, P1⟩, P2⟩
end Go.Proofs.YtdnjdglekifhpaaGreat
namespace Go.Proofs.YtdnjdglekifhpaaGreat
def cmpQ (a b : Rat) : Int := cmpI (a.num * b.den) (b.num * a.den)
end Go.Proofs.YtdnjdglekifhpaaGreat
namespace Go.Proofs.YtdnjdglekifhpaaGreat
theorem pow_row (n : Nat) : num ((zeros (n / 64 + 1)).set (n / 64) (2 ^ (n % 64))) = 2 ^ n ∧ Bd ((zeros (n / 64 + 1)).set (n / 64) (2 ^ (n % 64))) ∧ Rt ((zeros (n / 64 + 1)).set (n / 64) (2 ^ (n % 64))) := by
  have hp : 2 ^ (n % 64) < W64 := Nat.pow_lt_pow_right (a := 2) (m := n % 64) (n := 64) (by omega) (Nat.mod_lt _ (by omega))
  refine ⟨?_, (Bd.zeros _).set _ hp, .inr ?_⟩
  · have := num_set (zeros (n / 64 + 1)) (n / 64) (2 ^ (n % 64)) (by rw [zeros_len]; omega)
    rw [lat_zeros, num_zeros, Nat.mul_zero, Nat.add_zero, Nat.zero_add, W64_pow, ← Nat.pow_add] at this
    rw [this]; congr 1; omega
  · rw [lat_set, List.length_set, zeros_len, if_pos ⟨by omega, by omega⟩]
    have : 0 < 2 ^ (n % 64) := Nat.pow_pos (by omega)
    omega
end Go.Proofs.YtdnjdglekifhpaaGreat
namespace Go.Proofs.YtdnjdglekifhpaaGreat
open Go.RowKit
theorem IsN.of_row {w : World} {g n : Nat} {l : List Nat} (h : Arr w g l) (hb : Bd l) (hr : Rt l) (hn : num l = n) (hl : l.length ≤ 10000000) : IsN w (.slice (some ⟨g, 0, none⟩) l.length l.length) n := by
  have := h.isL hb (by omega)
  unfold IsN; rw [← hn, limbs_num l hb hr]; exact this
set_option maxHeartbeats 1000000 in
theorem power2_any (n : Nat) (hn : n ≤ 20000) (w : World) :
    Calls Tryz.prog 190 #[.int .i64 n] w fun e w' => ∃ v', e = .returned v' ∧ IsN w' v' (2 ^ n) ∧ Below w.heap.size w w' := by
  obtain ⟨r1, r2, r3⟩ := pow_row n
  have R := Lib.hid (And.intro r1 (And.intro r2 r3))
  have rl : ((zeros (n / 64 + 1)).set (n / 64) (2 ^ (n % 64))).length = n / 64 + 1 := by rw [List.length_set, zeros_len]
  have RL := Lib.hid rl
  have zl := zeros_len (n / 64 + 1)
  have hp : ∀ k, k < 64 → 2 ^ k < W64 := fun k hk => Nat.pow_lt_pow_right (a := 2) (m := k) (n := 64) (by omega) hk
  have HP := Lib.hid hp
  have a0 := Arr.new w (zeros (n / 64 + 1))
  have c0 := a0.cell (i := n / 64) (by rw [zl]; omega)
  have f0 := a0.frozen (n / 64)
  have B0 : Below w.heap.size w (w.alloc (.cells (us (zeros (n / 64 + 1))).toArray 141)) := (Below.refl _ w).alloc (Nat.le_refl _) _
  have hmk := run_make_u64 28 Tryz.underlying28 (n / 64 + 1) ((n : Int) / 64 + 1) (by omega) (by omega)
  clear r1 r2 r3 rl zl hp
  go_enter Tryz.func190, Tryz.ntmps190
  go_wp2
  have W0z : (w.alloc (.cells (us (zeros (n / 64 + 1))).toArray 141)).heap.size = w.heap.size + 1 := by simp
  generalize w.alloc (.cells (us (zeros (n / 64 + 1))).toArray 141) = W0 at *
  clear W0z
  go_loop [4, 5] (fun o i => ∃ k : Nat, k ≤ n % 64 ∧ i = .int .i64 k ∧ o = .int .u64 ((2 ^ k : Nat) : Int)) (fun _ i => n % 64 - (intOf i).toNat)
  case atStart => exact ⟨0, by omega, rfl, rfl⟩
  case round =>
    obtain ⟨k, hk, rfl, rfl⟩ := hrel
    by_cases hlt : k < n % 64
    · have h1 : (k : Int) < (n : Int) % 64 := by omega
      have hb := HP.out (k + 1) (by omega)
      obtain ⟨x, hx⟩ : ∃ x, x = 2 ^ k := ⟨_, rfl⟩
      have hx2 : 2 ^ (k + 1) = x * 2 := by rw [hx, Nat.pow_succ]
      rw [hx2] at hb
      rw [← hx]
      have hb' : ((x : Nat) : Int) ≤ 9223372036854775807 := by unfold W64 at hb; omega
      have X := Lib.hid hx2
      clear hx hx2 hb
      go_wp2
      go_round
      case rel => exact ⟨k + 1, by omega, by go_num, by rw [X.out]; go_num⟩
      case measure => simp [intOf]; omega
    · obtain rfl : k = n % 64 := by omega
      have h1 : ¬ (((n % 64 : Nat) : Int) < (n : Int) % 64) := by omega
      have g0 : (0 : Int) ≤ (n : Int) / 64 := by omega
      have g1 : (n : Int) / 64 < (((n / 64 + 1 : Nat)) : Int) := by omega
      have g2 : ((n : Int) / 64).toNat = n / 64 := by omega
      obtain ⟨r1, r2, r3⟩ := R.out
      have hA := a0.set (n / 64) (2 ^ (n % 64))
      have := IsN.of_row hA r2 r3 r1 (by rw [RL.out]; omega)
      rw [RL.out] at this
      generalize 2 ^ (n % 64) = x at *
      have T := Lib.hid this
      clear this r1 r2 r3 hA
      go_wp2
      go_ret
      exact ⟨_, rfl, T.out, B0.setCell (p := ⟨w.heap.size, n / 64, none⟩) (Nat.le_refl _) _⟩
theorem shl_any (v : Value) (a n : Nat) (hn : n ≤ 20000) (w : World) (h : IsN w v a) (hl : Sz a 1000000) :
    Calls Tryz.prog 141 #[v, .int .i64 n] w fun e w' => ∃ v', e = .returned (.tuple #[v', .int .i64 0]) ∧ IsN w' v' (a * 2 ^ n) ∧ Below w.heap.size w w' := by
  have hP := fun w => power2_any n hn w
  have hs : (limbs (2 ^ n)).length ≤ 1000000 := (Sz.two_pow n).fin (by omega)
  have hM := fun vb w (ha : IsN w v a) (hb : IsN w vb (2 ^ n)) => rmul_any v vb a (2 ^ n) w ha hb hl hs
  generalize 2 ^ n = p at *
  clear hs
  go_enter Tryz.func141, Tryz.ntmps141
  go_wp2_with fail
  refine (hP _).mono ?_
  rintro e w1 ⟨v1, rfl, h1, b1⟩
  have h := h.below b1
  go_wp2_with fail
  refine (hM _ _ h h1).mono ?_
  rintro e w2 ⟨v2, rfl, h2, b2⟩
  go_wp2
  go_ret2
  exact ⟨_, rfl, h2, b1.trans (b2.mono b1.size)⟩
end Go.Proofs.YtdnjdglekifhpaaGreat
namespace Go.Proofs.YtdnjdglekifhpaaGreat
open Go.RowKit
end Go.Proofs.YtdnjdglekifhpaaGreat
namespace Go.Proofs.YtdnjdglekifhpaaGreat
open Go.RowKit
end Go.Proofs.YtdnjdglekifhpaaGreat
namespace Go.Proofs.YtdnjdglekifhpaaGreat
open Go.RowKit
end Go.Proofs.YtdnjdglekifhpaaGreat
namespace Go.Proofs.YtdnjdglekifhpaaGreat
open Go.RowKit
end Go.Proofs.YtdnjdglekifhpaaGreat
namespace Go.Proofs.YtdnjdglekifhpaaGreat
open Go.RowKit
attribute [local go_sem ↓] Go.wp_at_zero Go.wp_at_succ
theorem cmp_sided (a b : Int) : cmpI a b = if decide (a < 0) = decide (b < 0) then (if decide (a < 0) = true then -cmpI a.natAbs b.natAbs else cmpI a.natAbs b.natAbs) else if decide (a < 0) = true then -1 else 1 := by
  unfold cmpI
  by_cases ha : a < 0 <;> by_cases hb : b < 0 <;> simp only [ha, hb, decide_true, decide_false, if_true, if_false, Bool.false_eq_true, Bool.true_eq_false] <;> (repeat' split) <;> omega
set_option maxHeartbeats 1000000 in
theorem rzcmp_any (va vb : Value) (a b : Int) (w : World) (ha : IsZ w va a) (hb : IsZ w vb b) :
    Calls Tryz.prog 79 #[va, vb] w fun e w' => e = .returned (.int .i64 (cmpI a b)) ∧ Below w.heap.size w w' := by
  rw [cmp_sided]
  obtain ⟨na, rfl, ha⟩ := ha
  obtain ⟨nb, rfl, hb⟩ := hb
  have hC := fun w ha hb => rcmp_n na nb a.natAbs b.natAbs w ha hb
  have hbd : -1 ≤ cmpI (a.natAbs : Int) (b.natAbs : Int) ∧ cmpI (a.natAbs : Int) (b.natAbs : Int) ≤ 1 := by unfold cmpI; split <;> (try split) <;> omega
  generalize cmpI (a.natAbs : Int) (b.natAbs : Int) = c at *
  generalize decide (a < 0) = s1 at *
  generalize decide (b < 0) = s2 at *
  obtain ⟨W0, hW, hT, hB⟩ := box2 w 30 30 #[.bool s1, na] #[.bool s2, nb]
  obtain ⟨g, hg⟩ : ∃ g, g = w.heap.size := ⟨_, rfl⟩
  have hW' := Lib.hid (And.intro hW hg)
  rw [← hg] at hT
  clear hW hg
  have ha := ha.below hB
  have hb := hb.below hB
  obtain ⟨k1, k2⟩ := hbd
  have HB := Lib.hid hB
  rcases s1 <;> rcases s2
  all_goals
    go_enter Tryz.func79, Tryz.ntmps79
    go_wp2_with fail
    try (
      rw [← hW'.out.1, ← hW'.out.2]
      refine (hC _ ha hb).mono ?_
      rintro e w1 ⟨rfl, n1, rfl⟩
      have hT := hT.below (below_drewN (Below.refl _ _) n1) hT.lt
      have HB := Lib.hid (below_drewN hB n1)
      obtain ⟨q0, q1, q2, q3⟩ := hT.cells22
      go_wp2)
    go_ret
    exact ⟨rfl, by first | exact HB.out | (have := HB.out; rw [hW'.out.1] at this; exact this)⟩
end Go.Proofs.YtdnjdglekifhpaaGreat
namespace Go.Proofs.YtdnjdglekifhpaaGreat
open Go.RowKit
attribute [local go_sem ↓] Go.wp_at_zero Go.wp_at_succ
set_option maxHeartbeats 4000000 in
theorem rzadd_any (va vb : Value) (a b : Int) (w : World) (ha : IsZ w va a) (hb : IsZ w vb b) (sa : Sz a.natAbs 400000) (sb : Sz b.natAbs 400000) :
    Calls Tryz.prog 71 #[va, vb] w fun e w' => ∃ v', e = .returned v' ∧ IsZ w' v' (a + b) ∧ Below w.heap.size w w' := by
  obtain ⟨na, rfl, ha⟩ := ha
  obtain ⟨nb, rfl, hb⟩ := hb
  have hAdd := fun w ha hb => radd_any na nb a.natAbs b.natAbs w ha hb (sa.fin (by omega)) (sb.fin (by omega))
  have hSab := fun w ha hb h => rsub_any na nb a.natAbs b.natAbs w ha hb (sa.fin (by omega)) (sb.fin (by omega)) h
  have hSba := fun w ha hb h => rsub_any nb na b.natAbs a.natAbs w hb ha (sb.fin (by omega)) (sa.fin (by omega)) h
  have hC := fun w ha hb => rcmp_n na nb a.natAbs b.natAbs w ha hb
  have hM := fun s v n w hn => rmade_any s v n w hn
  obtain ⟨c, hc⟩ : ∃ c, c = a + b := ⟨_, rfl⟩
  rw [← hc]
  rw [← sided_of a, ← sided_of b] at hc
  generalize decide (a < 0) = s1 at *
  generalize decide (b < 0) = s2 at *
  generalize a.natAbs = x at *
  generalize b.natAbs = y at *
  obtain ⟨W0, hW, hT, hR, hB⟩ := box3 w 30 30 30 #[.bool s1, na] #[.bool s2, nb] #[.bool false, .slice none 0 0]
  obtain ⟨g, hg⟩ : ∃ g, g = w.heap.size := ⟨_, rfl⟩
  have hW' := Lib.hid (And.intro hW hg)
  rw [← hg] at hT hR
  clear hW hg
  have ha := ha.below hB
  have hb := hb.below hB
  have CT := hT.cells22
  by_cases hs : s1 = s2
  · subst hs
    rw [sided_add_same] at hc
    have hM := fun v w hn => hM s1 v (x + y) w hn
    rw [← hc] at hM
    clear hc hSab hSba hC
    have hAdd := fun w ha hb => hAdd w ha hb
    generalize x + y = n at *
    obtain ⟨q00, q01, q10, q11⟩ := CT
    go_enter Tryz.func71, Tryz.ntmps71
    go_wp2
    rw [← hW'.out.1, ← hW'.out.2]
    go_region_held3 (fun w' => w'.cell? ⟨g, 0, none⟩ = some (.bool s1) ∧ w'.cell? ⟨g, 1, none⟩ = some na ∧ w'.cell? ⟨g + 1, 0, none⟩ = some (.bool s1) ∧ w'.cell? ⟨g + 1, 1, none⟩ = some nb) (first | exact Two.cells22 (by assumption) | exact Two.cells22 (Two.far2 (by assumption) _ _))
      (first
        | (go_at_call 137; refine (hAdd _ ?_ ?_).mono ?_; exact ha; exact hb; rintro x w1 ⟨v1, rfl, h1, b1⟩; have b1 := undrew b1; have hT1 := hT.below b1 hT.lt; have hR1 := hR.below b1 hR.lt; have hB1 := hB.trans (b1.mono hB.size))
        | (go_at_call 136; refine (hM _ _ ?_).mono ?_; exact h1; rintro x w2 ⟨v2, rfl, ⟨n2, rfl, h2⟩, b2⟩; obtain ⟨A2, L2, C2, rfl⟩ := h2.frm; have hT2 := hT1.below b2 hT1.lt; have hR2 := hR1.below b2 hR1.lt; have hB2 := hB1.trans (b2.mono hB1.size); have q0 := hR2.cell 0; have q1 := hR2.cell 1; have z0 := hR2.frozen 0; have z1 := hR2.frozen 1))
    obtain ⟨p1, p2, p3⟩ := put2 hR2 (.bool (decide (c < 0))) (.slice A2 L2 C2) (by simp [noU]) hB2 (by rw [hW'.out.2]; omega)
    have q0 := hR2.cell 0
    have z0 := hR2.frozen 0
    have q1 := hR2.cell 1
    have z1 := hR2.frozen 1
    have P := Lib.hid (And.intro (⟨_, rfl, p2 _ _ h2⟩ : IsZ _ (.agg #[.bool (decide (c < 0)), .slice A2 L2 C2]) c) (And.intro p3 p1.cells2))
    clear p1 p2 p3 
    go_wp2
    obtain ⟨P1, P2, P3, P4⟩ := P.out
    exact bodyPost_ret (v := .agg #[.bool (decide (c < 0)), .slice A2 L2 C2]) (by simp [results, Tryz.results71, go_sem, P3, P4]) rfl ⟨_, rfl, P1, P2⟩
  · by_cases hle : y ≤ x
    · rw [sided_add_ge _ _ _ _ hs hle] at hc
      have hSab := fun w ha hb => hSab w ha hb hle
      have hM := fun v w hn => hM s1 v (x - y) w hn
      rw [← hc] at hM
      clear hc
      generalize x - y = n at *
      obtain ⟨q00, q01, q10, q11⟩ := CT
      have hne : (s1 == s2) = false := by simpa using hs
      have hne2 : decide (s1 = s2) = false := decide_eq_false hs
      have HS := Lib.hid hs
      clear hs
      have hk : (0 : Int) ≤ cmpI (x : Int) (y : Int) := by unfold cmpI; split <;> (try split) <;> omega
      generalize cmpI (x : Int) (y : Int) = k at *
      go_enter Tryz.func71, Tryz.ntmps71
      go_wp2_with fail
      rw [← hW'.out.1, ← hW'.out.2]
      refine (hC _ ha hb).mono ?_
      rintro e w1 ⟨rfl, n1, rfl⟩
      have d1 := below_drewN (Below.refl W0.heap.size W0) n1
      have ha := ha.below d1
      have hb := hb.below d1
      have hT := hT.below d1 hT.lt
      have hR := hR.below d1 hR.lt
      have hB := below_drewN hB n1
      generalize W0.drewN n1 = w1 at *
      obtain ⟨q00, q01, q10, q11⟩ := hT.cells22
      go_wp2_with fail
      refine (hSab _ ha hb).mono ?_
      rintro e w2 ⟨v2, rfl, h2, b2⟩
      have hT := hT.below b2 hT.lt
      have hR := hR.below b2 hR.lt
      have hB := hB.trans (b2.mono hB.size)
      obtain ⟨q00, q01, q10, q11⟩ := hT.cells22
      go_wp2_with fail
      refine (hM _ _ h2).mono ?_
      rintro e w3 ⟨v3, rfl, ⟨n3, rfl, h3⟩, b3⟩
      obtain ⟨A3, L3, C3, rfl⟩ := h3.frm
      have hR := hR.below b3 hR.lt
      have hB := hB.trans (b3.mono hB.size)
      clear hM hAdd
      obtain ⟨p1, p2, p3⟩ := put2 hR (.bool (decide (c < 0))) (.slice A3 L3 C3) (by simp [noU]) hB (by rw [hW'.out.2]; omega)
      have q0 := hR.cell 0
      have z0 := hR.frozen 0
      have q1 := hR.cell 1
      have z1 := hR.frozen 1
      have P := Lib.hid (And.intro (⟨_, rfl, p2 _ _ h3⟩ : IsZ _ (.agg #[.bool (decide (c < 0)), .slice A3 L3 C3]) c) (And.intro p3 p1.cells2))
      clear p1 p2 p3 
      go_wp2
      obtain ⟨P1, P2, P3, P4⟩ := P.out
      exact bodyPost_ret (v := .agg #[.bool (decide (c < 0)), .slice A3 L3 C3]) (by simp [results, Tryz.results71, go_sem, P3, P4]) rfl ⟨_, rfl, P1, P2⟩
    · rw [sided_add_lt _ _ _ _ hs (by omega)] at hc
      have hSba := fun w ha hb => hSba w ha hb (by omega)
      have hM := fun v w hn => hM s2 v (y - x) w hn
      rw [← hc] at hM
      clear hc
      generalize y - x = n at *
      obtain ⟨q00, q01, q10, q11⟩ := CT
      have hne : (s1 == s2) = false := by simpa using hs
      have hne2 : decide (s1 = s2) = false := decide_eq_false hs
      have HS := Lib.hid hs
      clear hs
      have hk : cmpI (x : Int) (y : Int) < 0 := by unfold cmpI; split <;> (try split) <;> omega
      generalize cmpI (x : Int) (y : Int) = k at *
      go_enter Tryz.func71, Tryz.ntmps71
      go_wp2_with fail
      rw [← hW'.out.1, ← hW'.out.2]
      refine (hC _ ha hb).mono ?_
      rintro e w1 ⟨rfl, n1, rfl⟩
      have d1 := below_drewN (Below.refl W0.heap.size W0) n1
      have ha := ha.below d1
      have hb := hb.below d1
      have hT := hT.below d1 hT.lt
      have hR := hR.below d1 hR.lt
      have hB := below_drewN hB n1
      generalize W0.drewN n1 = w1 at *
      obtain ⟨q00, q01, q10, q11⟩ := hT.cells22
      go_wp2_with fail
      refine (hSba _ ha hb).mono ?_
      rintro e w2 ⟨v2, rfl, h2, b2⟩
      have hT := hT.below b2 hT.lt
      have hR := hR.below b2 hR.lt
      have hB := hB.trans (b2.mono hB.size)
      obtain ⟨q00, q01, q10, q11⟩ := hT.cells22
      go_wp2_with fail
      refine (hM _ _ h2).mono ?_
      rintro e w3 ⟨v3, rfl, ⟨n3, rfl, h3⟩, b3⟩
      obtain ⟨A3, L3, C3, rfl⟩ := h3.frm
      have hR := hR.below b3 hR.lt
      have hB := hB.trans (b3.mono hB.size)
      clear hM hAdd
      obtain ⟨p1, p2, p3⟩ := put2 hR (.bool (decide (c < 0))) (.slice A3 L3 C3) (by simp [noU]) hB (by rw [hW'.out.2]; omega)
      have q0 := hR.cell 0
      have z0 := hR.frozen 0
      have q1 := hR.cell 1
      have z1 := hR.frozen 1
      have P := Lib.hid (And.intro (⟨_, rfl, p2 _ _ h3⟩ : IsZ _ (.agg #[.bool (decide (c < 0)), .slice A3 L3 C3]) c) (And.intro p3 p1.cells2))
      clear p1 p2 p3 
      go_wp2
      obtain ⟨P1, P2, P3, P4⟩ := P.out
      exact bodyPost_ret (v := .agg #[.bool (decide (c < 0)), .slice A3 L3 C3]) (by simp [results, Tryz.results71, go_sem, P3, P4]) rfl ⟨_, rfl, P1, P2⟩
end Go.Proofs.YtdnjdglekifhpaaGreat
namespace Go.Proofs.YtdnjdglekifhpaaGreat
open Go.RowKit
attribute [local go_sem ↓] Go.wp_at_zero Go.wp_at_succ
set_option maxHeartbeats 2000000 in
theorem rqover_any (vp vq : Value) (p : Int) (q : Nat) (w : World) (hp : IsZ w vp p) (hq : IsN w vq q) (sp : Sz p.natAbs 400000) (sq : Sz q 400000) :
    Calls Tryz.prog 72 #[vp, vq] w fun e w' => ∃ v', e = .returned v' ∧ IsZ w' v' (p * (q : Int)) ∧ Below w.heap.size w w' := by
  have hM := fun w va vb ha hb => rzmul_any va vb p (q : Int) w ha hb sp (by simpa using sq)
  have hZ : ∀ w, IsN w vq q → IsZ w (.agg #[.bool false, vq]) (q : Int) := fun w h => ⟨vq, by rw [decide_eq_false (by omega)], by simpa using h⟩
  have hp0 := hp
  obtain ⟨np, rfl, hp⟩ := hp
  obtain ⟨Aq, Lq, Cq, rfl⟩ := hq.frm
  obtain ⟨Ap, Lp, Cp, rfl⟩ := hp.frm
  obtain ⟨c, hc⟩ : ∃ c, c = p * (q : Int) := ⟨_, rfl⟩
  rw [← hc] at hM ⊢
  have HZ := Lib.hid hZ
  clear hc hZ sp sq
  generalize decide (p < 0) = b at *
  obtain ⟨W0, hW, hT, hB⟩ := box2 w 30 30 #[.bool b, .slice Ap Lp Cp] #[.bool false, .slice none 0 0]
  obtain ⟨g, hg⟩ : ∃ g, g = w.heap.size := ⟨_, rfl⟩
  have hW' := Lib.hid (And.intro hW hg)
  rw [← hg] at hT
  clear hW hg
  have hp0 := hp0.below hB
  have hq := HZ.out _ (hq.below hB)
  obtain ⟨q00, q01⟩ := hT.1.cells2
  go_enter Tryz.func72, Tryz.ntmps72
  go_wp2_with fail
  rw [← hW'.out.1, ← hW'.out.2]
  refine (hM _ _ _ hp0 hq).mono ?_
  rintro e w1 ⟨v1, rfl, ⟨n1, rfl, h1⟩, b1⟩
  obtain ⟨A2, L2, C2, rfl⟩ := h1.frm
  have hT := hT.below b1 hT.lt
  have hB := hB.trans (b1.mono hB.size)
  have hR := hT.2
  obtain ⟨p1, p2, p3⟩ := put2 hR (.bool (decide (c < 0))) (.slice A2 L2 C2) (by simp [noU]) hB (by rw [hW'.out.2]; omega)
  have q0 := hR.cell 0
  have z0 := hR.frozen 0
  have q1 := hR.cell 1
  have z1 := hR.frozen 1
  have P := Lib.hid (And.intro (⟨_, rfl, p2 _ _ h1⟩ : IsZ _ (.agg #[.bool (decide (c < 0)), .slice A2 L2 C2]) c) (And.intro p3 p1.cells2))
  clear p1 p2 p3 hM
  go_wp2
  obtain ⟨P1, P2, P3, P4⟩ := P.out
  exact bodyPost_ret (v := .agg #[.bool (decide (c < 0)), .slice A2 L2 C2]) (by simp [results, Tryz.results72, go_sem, P3, P4]) rfl ⟨_, rfl, P1, P2⟩
end Go.Proofs.YtdnjdglekifhpaaGreat
namespace Go.Proofs.YtdnjdglekifhpaaGreat
open Go.RowKit
section
variable {w : World} {R : Nat} {t : TypeId}
theorem put6 {a b c d e f : Value} (hR : Blk w R t #[a, b, c, d, e, f]) (x y z p q r : Value) (hcs : (#[a, b, c, d, e, f] : Array Value).all noU = true) {B : Nat} {w0 : World} (hB : Below B w0 w) (hBR : B ≤ R) :
    Blk ((((((w.setCell ⟨R, 0, none⟩ x).setCell ⟨R, 1, none⟩ y).setCell ⟨R, 2, none⟩ z).setCell ⟨R, 3, none⟩ p).setCell ⟨R, 4, none⟩ q).setCell ⟨R, 5, none⟩ r) R t #[x, y, z, p, q, r] ∧ (∀ v n, IsN w v n → IsN ((((((w.setCell ⟨R, 0, none⟩ x).setCell ⟨R, 1, none⟩ y).setCell ⟨R, 2, none⟩ z).setCell ⟨R, 3, none⟩ p).setCell ⟨R, 4, none⟩ q).setCell ⟨R, 5, none⟩ r) v n) ∧ Below B w0 ((((((w.setCell ⟨R, 0, none⟩ x).setCell ⟨R, 1, none⟩ y).setCell ⟨R, 2, none⟩ z).setCell ⟨R, 3, none⟩ p).setCell ⟨R, 4, none⟩ q).setCell ⟨R, 5, none⟩ r) := by
  obtain ⟨W, rfl, h1, h2, h3, h4⟩ := fill6 hR x y z p q r hcs
  exact ⟨h1, fun v n h => h2 _ _ h, h4 _ _ hBR hB⟩
theorem Blk.cells6 {g : Nat} {a b c d e f : Value} (h : Blk w g t #[a, b, c, d, e, f]) : w.cell? ⟨g, 0, none⟩ = some a ∧ w.cell? ⟨g, 1, none⟩ = some b ∧ w.cell? ⟨g, 2, none⟩ = some c ∧ w.cell? ⟨g, 3, none⟩ = some d ∧ w.cell? ⟨g, 4, none⟩ = some e ∧ w.cell? ⟨g, 5, none⟩ = some f := ⟨h.cell 0, h.cell 1, h.cell 2, h.cell 3, h.cell 4, h.cell 5⟩
end
end Go.Proofs.YtdnjdglekifhpaaGreat
namespace Go.Proofs.YtdnjdglekifhpaaGreat
open Go.RowKit
attribute [local go_sem ↓] Go.wp_at_zero Go.wp_at_succ
def rightZ (b : Bool) (l : List Nat) : Bool := decide (l = [] ∨ lat l (l.length - 1) ≠ 0) && !(b && decide (l.length = 0))
end Go.Proofs.YtdnjdglekifhpaaGreat
namespace Go.Proofs.YtdnjdglekifhpaaGreat
open Go.RowKit
attribute [local go_sem ↓] Go.wp_at_zero Go.wp_at_succ
set_option maxHeartbeats 2000000 in
theorem rqcmp_any (va vb : Value) (a b : Rat) (w : World) (ha : IsQ w va a) (hb : IsQ w vb b) (sa : BQ a 10000) (sb : BQ b 10000) :
    Calls Tryz.prog 28 #[va, vb] w fun e w' => e = .returned (.int .i64 (cmpQ a b)) ∧ Below w.heap.size w w' := by
  obtain ⟨pa, qa, rfl, hpa, hqa⟩ := ha
  have hza : IsZ w (.agg #[.bool (decide (a.num < 0)), pa]) a.num := ⟨_, rfl, hpa⟩
  obtain ⟨pb, qb, rfl, hpb, hqb⟩ := hb
  have hzb : IsZ w (.agg #[.bool (decide (b.num < 0)), pb]) b.num := ⟨_, rfl, hpb⟩
  have hO1 := fun w hp hq => rqover_any (.agg #[.bool (decide (a.num < 0)), pa]) qb a.num b.den w hp hq (sa.1.more (by omega)) (sb.2.more (by omega))
  have hO2 := fun w hp hq => rqover_any (.agg #[.bool (decide (b.num < 0)), pb]) qa b.num a.den w hp hq (sb.1.more (by omega)) (sa.2.more (by omega))
  have hC := fun u v w hu hv => rzcmp_any u v (a.num * b.den) (b.num * a.den) w hu hv
  rw [show cmpQ a b = cmpI (a.num * b.den) (b.num * a.den) from rfl]
  generalize cmpI (a.num * b.den) (b.num * a.den) = c at *
  generalize a.num * (b.den : Int) = m1 at *
  generalize b.num * (a.den : Int) = m2 at *
  generalize a.num = na at *
  generalize b.num = nb at *
  clear hpa hpb sa sb
  generalize decide (na < 0) = sa at *
  generalize decide (nb < 0) = sb at *
  obtain ⟨W0, hW, hT, hB⟩ := box2 w 32 32 #[.bool sa, pa, qa] #[.bool sb, pb, qb]
  obtain ⟨g, hg⟩ : ∃ g, g = w.heap.size := ⟨_, rfl⟩
  have hW' := Lib.hid (And.intro hW hg)
  rw [← hg] at hT
  clear hW hg
  have hza := hza.below hB
  have hzb := hzb.below hB
  have hqa := hqa.below hB
  have hqb := hqb.below hB
  go_enter Tryz.func28, Tryz.ntmps28
  go_wp2
  rw [← hW'.out.1, ← hW'.out.2]
  go_region_held3 (fun w' => w'.cell? ⟨g, 0, none⟩ = some (.bool sa) ∧ w'.cell? ⟨g, 1, none⟩ = some pa ∧ w'.cell? ⟨g, 2, none⟩ = some qa ∧ w'.cell? ⟨g + 1, 0, none⟩ = some (.bool sb) ∧ w'.cell? ⟨g + 1, 1, none⟩ = some pb ∧ w'.cell? ⟨g + 1, 2, none⟩ = some qb) (exact Two.cells33 (hT.below (by first | assumption | exact balloc (by assumption) _ | exact bdrew _ | exact balloc (bdrew _) _) hT.lt))
    (first
      | (go_at_call 72; (with_reducible refine (hO1 _ ?_ ?_).mono ?_); exact hza.below (by first | assumption | exact balloc (by assumption) _ | exact bdrew _ | exact balloc (bdrew _) _); exact hqb.below (by first | assumption | exact balloc (by assumption) _ | exact bdrew _ | exact balloc (bdrew _) _); rintro x w1 ⟨v1, rfl, h1, b1⟩; have B1 := bstep (by first | assumption | exact balloc (by assumption) _ | exact bdrew _ | exact balloc (bdrew _) _) b1)
      | (go_at_call 72; (with_reducible refine (hO2 _ ?_ ?_).mono ?_); exact hzb.below (by first | assumption | exact balloc (by assumption) _ | exact bdrew _ | exact balloc (bdrew _) _); exact hqa.below (by first | assumption | exact balloc (by assumption) _ | exact bdrew _ | exact balloc (bdrew _) _); rintro x w2 ⟨v2, rfl, h2, b2⟩; have B2 := bstep (by first | assumption | exact balloc (by assumption) _ | exact bdrew _ | exact balloc (bdrew _) _) b2; have h1 := h1.below (by first | exact b2 | exact bstep (balloc (Below.refl _ _) _) b2))
      | (go_at_call 79; (with_reducible refine (hC _ _ _ ?_ ?_).mono ?_); exact h1.below (by first | exact Below.refl _ _ | exact balloc (Below.refl _ _) _); exact h2.below (by first | exact Below.refl _ _ | exact balloc (Below.refl _ _) _); rintro x w3 ⟨rfl, b3⟩; have B3 := bstep (by first | assumption | exact balloc (by assumption) _ | exact bdrew _ | exact balloc (bdrew _) _) b3))
  go_wp2
  go_ret
  exact ⟨rfl, hB.trans (B3.mono hB.size)⟩
set_option maxHeartbeats 2000000 in
theorem rqneg_any (v : Value) (a : Rat) (w : World) (ha : IsQ w v a) :
    Calls Tryz.prog 78 #[v] w fun e w' => ∃ v', e = .returned v' ∧ IsQ w' v' (-a) ∧ Below w.heap.size w w' := by
  obtain ⟨pa, qa, rfl, hpa, hqa⟩ := ha
  have hza : IsZ w (.agg #[.bool (decide (a.num < 0)), pa]) a.num := ⟨_, rfl, hpa⟩
  have hN := fun w hz => rzneg_any (.agg #[.bool (decide (a.num < 0)), pa]) a.num w hz
  obtain ⟨c, hc⟩ : ∃ c, c = -a.num := ⟨_, rfl⟩
  have KEY : Hid (∀ w' b x y, IsN w' x c.natAbs → IsN w' y a.den → b = decide (c < 0) → IsQ w' (.agg #[.bool b, x, y]) (-a)) := by
    rw [hc]; rintro w' b x y h1 h2 rfl; exact ⟨x, y, rfl, h1, h2⟩
  rw [← hc] at hN
  clear hc hpa
  generalize a.num = na at *
  generalize a.den = da at *
  generalize decide (na < 0) = sa at *
  obtain ⟨Aq, Lq, Cq, rfl⟩ := hqa.frm
  obtain ⟨W0, hW, hT, hB⟩ := box2 w 32 32 #[.bool sa, pa, .slice Aq Lq Cq] #[.bool false, .slice none 0 0, .slice none 0 0]
  obtain ⟨g, hg⟩ : ∃ g, g = w.heap.size := ⟨_, rfl⟩
  have hW' := Lib.hid (And.intro hW hg)
  rw [← hg] at hT
  clear hW hg
  have hza := hza.below hB
  have hqa := hqa.below hB
  go_enter Tryz.func78, Tryz.ntmps78
  go_wp2
  rw [← hW'.out.1, ← hW'.out.2]
  go_region_held3 (fun w' => w'.cell? ⟨g, 0, none⟩ = some (.bool sa) ∧ w'.cell? ⟨g, 1, none⟩ = some pa ∧ w'.cell? ⟨g, 2, none⟩ = some (.slice Aq Lq Cq)) (first | exact Blk.cells3 (hT.1.below (by first | assumption | exact balloc (by assumption) _ | exact bdrew _ | exact balloc (bdrew _) _) hT.1.lt) | exact Blk.cells3 (Blk.far3 (hT.1.below (by first | assumption | exact balloc (by assumption) _ | exact bdrew _ | exact balloc (bdrew _) _) hT.1.lt) _ _ _))
    (first
      | (go_at_call 142; (with_reducible refine (hN _ ?_).mono ?_); exact hza.below (by first | assumption | exact balloc (by assumption) _ | exact bdrew _ | exact balloc (bdrew _) _); rintro x w1 ⟨v1, rfl, ⟨n1, rfl, h1⟩, b1⟩; obtain ⟨A1, L1, C1, rfl⟩ := h1.frm; have B1 := bstep (by first | assumption | exact balloc (by assumption) _ | exact bdrew _ | exact balloc (bdrew _) _) b1; have hqa1 := hqa.below B1; have hR1 := hT.2.below B1 hT.2.lt; have q0 := hR1.cell 0; have q1 := hR1.cell 1; have q2 := hR1.cell 2; have z0 := hR1.frozen 0; have z1 := hR1.frozen 1; have z2 := hR1.frozen 2))
  obtain ⟨p1, p2, p3⟩ := put3 hR1 (.bool (decide (c < 0))) (.slice A1 L1 C1) (.slice Aq Lq Cq) (by simp [noU]) (hB.trans (B1.mono hB.size)) (by rw [hW'.out.2]; omega)
  have q0 := hR1.cell 0
  have z0 := hR1.frozen 0
  have q1 := hR1.cell 1
  have z1 := hR1.frozen 1
  have q2 := hR1.cell 2
  have z2 := hR1.frozen 2
  have P := Lib.hid (And.intro (KEY.out _ _ _ _ (p2 _ _ h1) (p2 _ _ hqa1) rfl) (And.intro p3 p1.cells3))
  clear p1 p2 p3 hN
  go_wp2
  obtain ⟨P1, P2, P3, P4, P5⟩ := P.out
  exact bodyPost_ret (v := .agg #[.bool (decide (c < 0)), .slice A1 L1 C1, .slice Aq Lq Cq]) (by simp [results, Tryz.results78, go_sem, P3, P4, P5]) rfl ⟨_, rfl, P1, P2⟩
end Go.Proofs.YtdnjdglekifhpaaGreat
namespace Go.Proofs.YtdnjdglekifhpaaGreat
open Go.RowKit
attribute [local go_sem ↓] Go.wp_at_zero Go.wp_at_succ
set_option maxHeartbeats 8000000 in
theorem rqmul_any (va vb : Value) (a b : Rat) (w : World) (ha : IsQ w va a) (hb : IsQ w vb b) (sa : BQ a 10000) (sb : BQ b 10000) :
    Calls Tryz.prog 25 #[va, vb] w fun e w' => ∃ v', e = .returned v' ∧ IsQ w' v' (a * b) ∧ Below w.heap.size w w' := by
  have hda : 0 < a.den := Rat.den_pos a
  have hdb : 0 < b.den := Rat.den_pos b
  obtain ⟨pa, qa, rfl, hpa, hqa⟩ := ha
  have hza : IsZ w (.agg #[.bool (decide (a.num < 0)), pa]) a.num := ⟨_, rfl, hpa⟩
  obtain ⟨pb, qb, rfl, hpb, hqb⟩ := hb
  have hzb : IsZ w (.agg #[.bool (decide (b.num < 0)), pb]) b.num := ⟨_, rfl, hpb⟩
  have hA := fun w hu hv => rzmul_any (.agg #[.bool (decide (a.num < 0)), pa]) (.agg #[.bool (decide (b.num < 0)), pb]) a.num b.num w hu hv (sa.1.more (by omega)) (sb.1.more (by omega))
  have hM := fun w hu hv => rmul_any qa qb a.den b.den w hu hv (sa.2.fin (by omega)) (sb.2.fin (by omega))
  have hK := fun u v w hu hv => rqmake_any u v (a.num * b.num) (a.den * b.den) w hu hv ((sa.1.imul sb.1).more (by omega)) ((sa.2.mul sb.2).more (by omega)) (Nat.mul_pos hda hdb)
  rw [← Rat.mul_def'] at hK
  obtain ⟨r, hr⟩ : ∃ r, r = a * b := ⟨_, rfl⟩
  rw [← hr] at hK ⊢
  clear hr
  generalize a.num * b.num = m3 at *
  generalize a.den * b.den = d at *
  generalize a.num = na at *
  generalize b.num = nb at *
  generalize a.den = da at *
  generalize b.den = db at *
  clear hpa hpb sa sb hda hdb
  generalize decide (na < 0) = sa at *
  generalize decide (nb < 0) = sb at *
  obtain ⟨W0, hW, hT, hR, hB⟩ := box3 w 32 32 32 #[.bool sa, pa, qa] #[.bool sb, pb, qb] #[.bool false, .slice none 0 0, .slice none 0 0]
  obtain ⟨g, hg⟩ : ∃ g, g = w.heap.size := ⟨_, rfl⟩
  have hW' := Lib.hid (And.intro hW hg)
  rw [← hg] at hT hR
  clear hW hg
  have hza := hza.below hB
  have hzb := hzb.below hB
  have hqa := hqa.below hB
  have hqb := hqb.below hB
  have hgw : w.heap.size ≤ g := by rw [hW'.out.2]; omega
  go_enter Tryz.func25, Tryz.ntmps25
  go_upto_region 1 with fail
  rw [← hW'.out.1, ← hW'.out.2]
  go_cut [5] (fun s wx => ∃ (X : Nat) (A1 A2 : Option Addr) (L1 L2 C1 C2 : Nat), s = .pointer (some ⟨X, 0, none⟩) ∧ Blk wx X 32 #[.bool (decide (r.num < 0)), .slice A1 L1 C1, .slice A2 L2 C2] ∧ IsN wx (.slice A1 L1 C1) r.num.natAbs ∧ IsN wx (.slice A2 L2 C2) r.den ∧ Blk wx (g + 1 + 1) 32 #[.bool false, .slice none 0 0, .slice none 0 0] ∧ Below w.heap.size w wx)
  case first =>
    go_region_held3 (fun w' => w'.cell? ⟨g, 0, none⟩ = some (.bool sa) ∧ w'.cell? ⟨g, 1, none⟩ = some pa ∧ w'.cell? ⟨g, 2, none⟩ = some qa ∧ w'.cell? ⟨g + 1, 0, none⟩ = some (.bool sb) ∧ w'.cell? ⟨g + 1, 1, none⟩ = some pb ∧ w'.cell? ⟨g + 1, 2, none⟩ = some qb) (first | exact Two.cells33 (hT.below (by first | assumption | exact balloc (by assumption) _ | exact bdrew _ | exact balloc (bdrew _) _) hT.lt) | exact Two.cells33 (hT.below (bset (bset (bset (by assumption) (by assumption) _) (by assumption) _) (by assumption) _) hT.lt))
      (first
        | (go_at_call 77; (with_reducible refine (hA _ ?_ ?_).mono ?_); exact hza.below (by first | assumption | exact balloc (by assumption) _ | exact bdrew _ | exact balloc (bdrew _) _); exact hzb.below (by first | assumption | exact balloc (by assumption) _ | exact bdrew _ | exact balloc (bdrew _) _); rintro x w3 ⟨v3, rfl, h3, b3⟩; (first | ((first | have hXX := newX b3 W0 (by first | assumption | exact bdrew _) | have hXX := newX (undrew b3) W0 (by first | exact Below.refl _ _ | assumption)); obtain ⟨hX, sX⟩ := hXX; try simp only [World.size_drew] at hX sX) | (have hX := hX.below b3 hX.lt) | skip); have B3 := bstep (a := W0) (by first | assumption | exact balloc (by assumption) _ | exact bdrew _ | exact balloc (bdrew _) _) b3)
        | (go_at_call 73; (with_reducible refine (hM _ ?_ ?_).mono ?_); exact hqa.below (by first | assumption | exact balloc (by assumption) _ | exact bdrew _ | exact balloc (bdrew _) _); exact hqb.below (by first | assumption | exact balloc (by assumption) _ | exact bdrew _ | exact balloc (bdrew _) _); rintro x w4 ⟨v4, rfl, h4, b4⟩; (first | ((first | have hXX := newX b4 W0 (by first | assumption | exact bdrew _) | have hXX := newX (undrew b4) W0 (by first | exact Below.refl _ _ | assumption)); obtain ⟨hX, sX⟩ := hXX; try simp only [World.size_drew] at hX sX) | (have hX := hX.below b4 hX.lt) | skip); have B4 := bstep (a := W0) (by first | assumption | exact balloc (by assumption) _ | exact bdrew _ | exact balloc (bdrew _) _) b4; have h3 := h3.below (by first | exact b4 | exact bstep (balloc (Below.refl _ _) _) b4))
        | (go_at_call 70; (with_reducible refine (hK _ _ _ ?_ ?_).mono ?_); exact h3.below (by first | exact Below.refl _ _ | exact balloc (Below.refl _ _) _); exact h4.below (by first | exact Below.refl _ _ | exact balloc (Below.refl _ _) _); rintro x w5 ⟨v5, rfl, ⟨n5, d5, rfl, h5, k5⟩, b5⟩; (first | ((first | have hXX := newX b5 W0 (by first | assumption | exact bdrew _) | have hXX := newX (undrew b5) W0 (by first | exact Below.refl _ _ | assumption)); obtain ⟨hX, sX⟩ := hXX; try simp only [World.size_drew] at hX sX) | (have hX := hX.below b5 hX.lt) | skip); have B5 := bstep (a := W0) (by first | assumption | exact balloc (by assumption) _ | exact bdrew _ | exact balloc (bdrew _) _) b5; obtain ⟨A1, L1, C1, rfl⟩ := h5.frm; obtain ⟨A2, L2, C2, rfl⟩ := k5.frm; (try (have x0 := hX.cell 0; have x1 := hX.cell 1; have x2 := hX.cell 2; have y0 := hX.frozen 0; have y1 := hX.frozen 1; have y2 := hX.frozen 2))))
    all_goals (go_wp2_with fail; go_meet)
    all_goals
      have hRlt := hR.lt
      have hR := hR.below B5 hR.lt
      have hB0 := hB
      have hB := hB.trans (B5.mono hB.size)
      have hsz := hT.lt
      first
        | exact ⟨_, _, _, _, _, _, _, rfl, Blk.new _ _ _, h5.below (balloc (Below.refl _ _) _), k5.below (balloc (Below.refl _ _) _), hR.alloc _, hB.alloc hB.size _⟩
        | (obtain ⟨p1, p2, p3⟩ := put3 hX (.bool (decide (r.num < 0))) (.slice A1 L1 C1) (.slice A2 L2 C2) (by simp [noU]) hB (Nat.le_trans hB0.size (by first | assumption | exact Nat.le_refl _))
           exact ⟨_, _, _, _, _, _, _, rfl, p1, p2 _ _ h5, p2 _ _ k5, hR.farX (Nat.ne_of_lt (Nat.lt_of_lt_of_le hRlt (by first | assumption | exact Nat.le_refl _))) _ _ _, p3⟩)
  obtain ⟨X, A1, A2, L1, L2, C1, C2, rfl, hX, h1, h2, hR, hB⟩ := hcut
  obtain ⟨x0, x1, x2⟩ := hX.cells3
  obtain ⟨p1, p2, p3⟩ := put3 hR (.bool (decide (r.num < 0))) (.slice A1 L1 C1) (.slice A2 L2 C2) (by simp [noU]) hB (by omega)
  have q0 := hR.cell 0
  have z0 := hR.frozen 0
  have q1 := hR.cell 1
  have z1 := hR.frozen 1
  have q2 := hR.cell 2
  have z2 := hR.frozen 2
  have P := Lib.hid (And.intro (⟨_, _, rfl, p2 _ _ h1, p2 _ _ h2⟩ : IsQ _ (.agg #[.bool (decide (r.num < 0)), .slice A1 L1 C1, .slice A2 L2 C2]) r) (And.intro p3 p1.cells3))
  clear p1 p2 p3 
  go_wp2
  obtain ⟨P1, P2, P3, P4, P5⟩ := P.out
  exact bodyPost_ret (v := .agg #[.bool (decide (r.num < 0)), .slice A1 L1 C1, .slice A2 L2 C2]) (by simp [results, Tryz.results25, go_sem, P3, P4, P5]) rfl ⟨_, rfl, P1, P2⟩
end Go.Proofs.YtdnjdglekifhpaaGreat
namespace Go.Proofs.YtdnjdglekifhpaaGreat
open Go.RowKit
attribute [local go_sem ↓] Go.wp_at_zero Go.wp_at_succ
set_option maxHeartbeats 8000000 in
theorem rqadd_any (va vb : Value) (a b : Rat) (w : World) (ha : IsQ w va a) (hb : IsQ w vb b) (sa : BQ a 10000) (sb : BQ b 10000) :
    Calls Tryz.prog 23 #[va, vb] w fun e w' => ∃ v', e = .returned v' ∧ IsQ w' v' (a + b) ∧ Below w.heap.size w w' := by
  have hda : 0 < a.den := Rat.den_pos a
  have hdb : 0 < b.den := Rat.den_pos b
  obtain ⟨pa, qa, rfl, hpa, hqa⟩ := ha
  have hza : IsZ w (.agg #[.bool (decide (a.num < 0)), pa]) a.num := ⟨_, rfl, hpa⟩
  obtain ⟨pb, qb, rfl, hpb, hqb⟩ := hb
  have hzb : IsZ w (.agg #[.bool (decide (b.num < 0)), pb]) b.num := ⟨_, rfl, hpb⟩
  have hO1 := fun w hp hq => rqover_any (.agg #[.bool (decide (a.num < 0)), pa]) qb a.num b.den w hp hq (sa.1.more (by omega)) (sb.2.more (by omega))
  have hO2 := fun w hp hq => rqover_any (.agg #[.bool (decide (b.num < 0)), pb]) qa b.num a.den w hp hq (sb.1.more (by omega)) (sa.2.more (by omega))
  have s1 : Sz (a.num * (b.den : Int)).natAbs 20000 := sa.1.imul (b := (b.den : Int)) (by simpa using sb.2)
  have s2 : Sz (b.num * (a.den : Int)).natAbs 20000 := sb.1.imul (b := (a.den : Int)) (by simpa using sa.2)
  have hA := fun u v w hu hv => rzadd_any u v (a.num * (b.den : Int)) (b.num * (a.den : Int)) w hu hv (s1.more (by omega)) (s2.more (by omega))
  have hM := fun w hu hv => rmul_any qa qb a.den b.den w hu hv (sa.2.fin (by omega)) (sb.2.fin (by omega))
  have hK := fun u v w hu hv => rqmake_any u v (a.num * (b.den : Int) + b.num * (a.den : Int)) (a.den * b.den) w hu hv ((s1.iadd s2).more (by omega)) ((sa.2.mul sb.2).more (by omega)) (Nat.mul_pos hda hdb)
  rw [← Rat.add_def'] at hK
  obtain ⟨r, hr⟩ : ∃ r, r = a + b := ⟨_, rfl⟩
  rw [← hr] at hK ⊢
  clear hr s1 s2
  generalize a.num * (b.den : Int) + b.num * (a.den : Int) = m3 at *
  generalize a.num * (b.den : Int) = m1 at *
  generalize b.num * (a.den : Int) = m2 at *
  generalize a.den * b.den = d at *
  generalize a.num = na at *
  generalize b.num = nb at *
  generalize a.den = da at *
  generalize b.den = db at *
  clear hpa hpb sa sb hda hdb
  generalize decide (na < 0) = sa at *
  generalize decide (nb < 0) = sb at *
  obtain ⟨W0, hW, hT, hR, hB⟩ := box3 w 32 32 32 #[.bool sa, pa, qa] #[.bool sb, pb, qb] #[.bool false, .slice none 0 0, .slice none 0 0]
  obtain ⟨g, hg⟩ : ∃ g, g = w.heap.size := ⟨_, rfl⟩
  have hW' := Lib.hid (And.intro hW hg)
  rw [← hg] at hT hR
  clear hW hg
  have hza := hza.below hB
  have hzb := hzb.below hB
  have hqa := hqa.below hB
  have hqb := hqb.below hB
  have hgw : w.heap.size ≤ g := by rw [hW'.out.2]; omega
  go_enter Tryz.func23, Tryz.ntmps23
  go_upto_region 1 with fail
  rw [← hW'.out.1, ← hW'.out.2]
  go_cut [5] (fun s wx => ∃ (X : Nat) (A1 A2 : Option Addr) (L1 L2 C1 C2 : Nat), s = .pointer (some ⟨X, 0, none⟩) ∧ Blk wx X 32 #[.bool (decide (r.num < 0)), .slice A1 L1 C1, .slice A2 L2 C2] ∧ IsN wx (.slice A1 L1 C1) r.num.natAbs ∧ IsN wx (.slice A2 L2 C2) r.den ∧ Blk wx (g + 1 + 1) 32 #[.bool false, .slice none 0 0, .slice none 0 0] ∧ Below w.heap.size w wx)
  case first =>
    go_region_held3 (fun w' => w'.cell? ⟨g, 0, none⟩ = some (.bool sa) ∧ w'.cell? ⟨g, 1, none⟩ = some pa ∧ w'.cell? ⟨g, 2, none⟩ = some qa ∧ w'.cell? ⟨g + 1, 0, none⟩ = some (.bool sb) ∧ w'.cell? ⟨g + 1, 1, none⟩ = some pb ∧ w'.cell? ⟨g + 1, 2, none⟩ = some qb) (first | exact Two.cells33 (hT.below (by first | assumption | exact balloc (by assumption) _ | exact bdrew _ | exact balloc (bdrew _) _) hT.lt) | exact Two.cells33 (hT.below (bset (bset (bset (by assumption) (by assumption) _) (by assumption) _) (by assumption) _) hT.lt))
      (first
        | (go_at_call 72; (with_reducible refine (hO1 _ ?_ ?_).mono ?_); exact hza.below (by first | assumption | exact balloc (by assumption) _ | exact bdrew _ | exact balloc (bdrew _) _); exact hqb.below (by first | assumption | exact balloc (by assumption) _ | exact bdrew _ | exact balloc (bdrew _) _); rintro x w1 ⟨v1, rfl, h1, b1⟩; (first | ((first | have hXX := newX b1 W0 (by first | assumption | exact bdrew _) | have hXX := newX (undrew b1) W0 (by first | exact Below.refl _ _ | assumption)); obtain ⟨hX, sX⟩ := hXX; try simp only [World.size_drew] at hX sX) | (have hX := hX.below b1 hX.lt) | skip); have B1 := bstep (a := W0) (by first | assumption | exact balloc (by assumption) _ | exact bdrew _ | exact balloc (bdrew _) _) b1)
        | (go_at_call 72; (with_reducible refine (hO2 _ ?_ ?_).mono ?_); exact hzb.below (by first | assumption | exact balloc (by assumption) _ | exact bdrew _ | exact balloc (bdrew _) _); exact hqa.below (by first | assumption | exact balloc (by assumption) _ | exact bdrew _ | exact balloc (bdrew _) _); rintro x w2 ⟨v2, rfl, h2, b2⟩; (first | ((first | have hXX := newX b2 W0 (by first | assumption | exact bdrew _) | have hXX := newX (undrew b2) W0 (by first | exact Below.refl _ _ | assumption)); obtain ⟨hX, sX⟩ := hXX; try simp only [World.size_drew] at hX sX) | (have hX := hX.below b2 hX.lt) | skip); have B2 := bstep (a := W0) (by first | assumption | exact balloc (by assumption) _ | exact bdrew _ | exact balloc (bdrew _) _) b2; have h1 := h1.below (by first | exact b2 | exact bstep (balloc (Below.refl _ _) _) b2))
        | (go_at_call 71; (with_reducible refine (hA _ _ _ ?_ ?_).mono ?_); exact h1.below (by first | exact Below.refl _ _ | exact balloc (Below.refl _ _) _); exact h2.below (by first | exact Below.refl _ _ | exact balloc (Below.refl _ _) _); rintro x w3 ⟨v3, rfl, h3, b3⟩; (first | ((first | have hXX := newX b3 W0 (by first | assumption | exact bdrew _) | have hXX := newX (undrew b3) W0 (by first | exact Below.refl _ _ | assumption)); obtain ⟨hX, sX⟩ := hXX; try simp only [World.size_drew] at hX sX) | (have hX := hX.below b3 hX.lt) | skip); have B3 := bstep (a := W0) (by first | assumption | exact balloc (by assumption) _ | exact bdrew _ | exact balloc (bdrew _) _) b3)
        | (go_at_call 73; (with_reducible refine (hM _ ?_ ?_).mono ?_); exact hqa.below (by first | assumption | exact balloc (by assumption) _ | exact bdrew _ | exact balloc (bdrew _) _); exact hqb.below (by first | assumption | exact balloc (by assumption) _ | exact bdrew _ | exact balloc (bdrew _) _); rintro x w4 ⟨v4, rfl, h4, b4⟩; (first | ((first | have hXX := newX b4 W0 (by first | assumption | exact bdrew _) | have hXX := newX (undrew b4) W0 (by first | exact Below.refl _ _ | assumption)); obtain ⟨hX, sX⟩ := hXX; try simp only [World.size_drew] at hX sX) | (have hX := hX.below b4 hX.lt) | skip); have B4 := bstep (a := W0) (by first | assumption | exact balloc (by assumption) _ | exact bdrew _ | exact balloc (bdrew _) _) b4; have h3 := h3.below (by first | exact b4 | exact bstep (balloc (Below.refl _ _) _) b4))
        | (go_at_call 70; (with_reducible refine (hK _ _ _ ?_ ?_).mono ?_); exact h3.below (by first | exact Below.refl _ _ | exact balloc (Below.refl _ _) _); exact h4.below (by first | exact Below.refl _ _ | exact balloc (Below.refl _ _) _); rintro x w5 ⟨v5, rfl, ⟨n5, d5, rfl, h5, k5⟩, b5⟩; (first | ((first | have hXX := newX b5 W0 (by first | assumption | exact bdrew _) | have hXX := newX (undrew b5) W0 (by first | exact Below.refl _ _ | assumption)); obtain ⟨hX, sX⟩ := hXX; try simp only [World.size_drew] at hX sX) | (have hX := hX.below b5 hX.lt) | skip); have B5 := bstep (a := W0) (by first | assumption | exact balloc (by assumption) _ | exact bdrew _ | exact balloc (bdrew _) _) b5; obtain ⟨A1, L1, C1, rfl⟩ := h5.frm; obtain ⟨A2, L2, C2, rfl⟩ := k5.frm; (try (have x0 := hX.cell 0; have x1 := hX.cell 1; have x2 := hX.cell 2; have y0 := hX.frozen 0; have y1 := hX.frozen 1; have y2 := hX.frozen 2))))
    all_goals (go_wp2_with fail; go_meet)
    all_goals
      have hRlt := hR.lt
      have hR := hR.below B5 hR.lt
      have hB0 := hB
      have hB := hB.trans (B5.mono hB.size)
      have hsz := hT.lt
      first
        | exact ⟨_, _, _, _, _, _, _, rfl, Blk.new _ _ _, h5.below (balloc (Below.refl _ _) _), k5.below (balloc (Below.refl _ _) _), hR.alloc _, hB.alloc hB.size _⟩
        | (obtain ⟨p1, p2, p3⟩ := put3 hX (.bool (decide (r.num < 0))) (.slice A1 L1 C1) (.slice A2 L2 C2) (by simp [noU]) hB (Nat.le_trans hB0.size (by first | assumption | exact Nat.le_refl _))
           exact ⟨_, _, _, _, _, _, _, rfl, p1, p2 _ _ h5, p2 _ _ k5, hR.farX (Nat.ne_of_lt (Nat.lt_of_lt_of_le hRlt (by first | assumption | exact Nat.le_refl _))) _ _ _, p3⟩)
  obtain ⟨X, A1, A2, L1, L2, C1, C2, rfl, hX, h1, h2, hR, hB⟩ := hcut
  obtain ⟨x0, x1, x2⟩ := hX.cells3
  obtain ⟨p1, p2, p3⟩ := put3 hR (.bool (decide (r.num < 0))) (.slice A1 L1 C1) (.slice A2 L2 C2) (by simp [noU]) hB (by omega)
  have q0 := hR.cell 0
  have z0 := hR.frozen 0
  have q1 := hR.cell 1
  have z1 := hR.frozen 1
  have q2 := hR.cell 2
  have z2 := hR.frozen 2
  have P := Lib.hid (And.intro (⟨_, _, rfl, p2 _ _ h1, p2 _ _ h2⟩ : IsQ _ (.agg #[.bool (decide (r.num < 0)), .slice A1 L1 C1, .slice A2 L2 C2]) r) (And.intro p3 p1.cells3))
  clear p1 p2 p3 
  go_wp2
  obtain ⟨P1, P2, P3, P4, P5⟩ := P.out
  exact bodyPost_ret (v := .agg #[.bool (decide (r.num < 0)), .slice A1 L1 C1, .slice A2 L2 C2]) (by simp [results, Tryz.results23, go_sem, P3, P4, P5]) rfl ⟨_, rfl, P1, P2⟩
end Go.Proofs.YtdnjdglekifhpaaGreat
namespace Go.Proofs.YtdnjdglekifhpaaGreat
open Go.RowKit
attribute [local go_sem ↓] Go.wp_at_zero Go.wp_at_succ
set_option maxHeartbeats 8000000 in
theorem rqsub_any (va vb : Value) (a b : Rat) (w : World) (ha : IsQ w va a) (hb : IsQ w vb b) (sa : BQ a 10000) (sb : BQ b 10000) :
    Calls Tryz.prog 26 #[va, vb] w fun e w' => ∃ v', e = .returned v' ∧ IsQ w' v' (a - b) ∧ Below w.heap.size w w' := by
  have hN := fun w hb => rqneg_any vb b w hb
  have hA := fun u w ha hu => rqadd_any va u a (-b) w ha hu sa sb.neg
  rw [← Rat.sub_eq_add_neg] at hA
  have ha0 := ha
  have hb0 := hb
  obtain ⟨pa, qa, rfl, hpa, hqa⟩ := ha
  have hza : IsZ w (.agg #[.bool (decide (a.num < 0)), pa]) a.num := ⟨_, rfl, hpa⟩
  obtain ⟨pb, qb, rfl, hpb, hqb⟩ := hb
  have hzb : IsZ w (.agg #[.bool (decide (b.num < 0)), pb]) b.num := ⟨_, rfl, hpb⟩
  obtain ⟨r, hr⟩ : ∃ r, r = a - b := ⟨_, rfl⟩
  rw [← hr] at hA ⊢
  clear hr hza hzb hpa hpb hqa hqb sa sb
  obtain ⟨W0, hW, hT, hR, hB⟩ := box3 w 32 32 32 #[.bool (decide (a.num < 0)), pa, qa] #[.bool (decide (b.num < 0)), pb, qb] #[.bool false, .slice none 0 0, .slice none 0 0]
  obtain ⟨g, hg⟩ : ∃ g, g = w.heap.size := ⟨_, rfl⟩
  have hW' := Lib.hid (And.intro hW hg)
  rw [← hg] at hT hR
  clear hW hg
  have ha0 := ha0.below hB
  have hb0 := hb0.below hB
  go_enter Tryz.func26, Tryz.ntmps26
  go_wp2
  rw [← hW'.out.1, ← hW'.out.2]
  go_region_held3 (fun w' => w'.cell? ⟨g, 0, none⟩ = some (.bool (decide (a.num < 0))) ∧ w'.cell? ⟨g, 1, none⟩ = some pa ∧ w'.cell? ⟨g, 2, none⟩ = some qa ∧ w'.cell? ⟨g + 1, 0, none⟩ = some (.bool (decide (b.num < 0))) ∧ w'.cell? ⟨g + 1, 1, none⟩ = some pb ∧ w'.cell? ⟨g + 1, 2, none⟩ = some qb) (first | exact Two.cells33 (hT.below (by first | assumption | exact balloc (by assumption) _ | exact bdrew _ | exact balloc (bdrew _) _) hT.lt) | exact Two.cells33 (Two.far3 (hT.below (by first | assumption | exact balloc (by assumption) _ | exact bdrew _ | exact balloc (bdrew _) _) hT.lt) _ _ _))
    (first
      | (go_at_call 78; (with_reducible refine (hN _ ?_).mono ?_); exact hb0.below (by first | assumption | exact balloc (by assumption) _ | exact bdrew _ | exact balloc (bdrew _) _); rintro x w1 ⟨v1, rfl, h1, b1⟩; have B1 := bstep (a := W0) (by first | assumption | exact balloc (by assumption) _ | exact bdrew _ | exact balloc (bdrew _) _) b1)
      | (go_at_call 23; (with_reducible refine (hA _ _ ?_ ?_).mono ?_); exact ha0.below (by first | assumption | exact balloc (by assumption) _ | exact bdrew _ | exact balloc (bdrew _) _); exact h1.below (by first | exact Below.refl _ _ | exact balloc (Below.refl _ _) _); rintro x w2 ⟨v2, rfl, ⟨n2, d2, rfl, h2, k2⟩, b2⟩; obtain ⟨A1, L1, C1, rfl⟩ := h2.frm; obtain ⟨A2, L2, C2, rfl⟩ := k2.frm; have B2 := bstep (a := W0) (by first | assumption | exact balloc (by assumption) _ | exact bdrew _ | exact balloc (bdrew _) _) b2; have hR1 := hR.below B2 hR.lt; have q0 := hR1.cell 0; have q1 := hR1.cell 1; have q2 := hR1.cell 2; have z0 := hR1.frozen 0; have z1 := hR1.frozen 1; have z2 := hR1.frozen 2))
  obtain ⟨p1, p2, p3⟩ := put3 hR1 (.bool (decide (r.num < 0))) (.slice A1 L1 C1) (.slice A2 L2 C2) (by simp [noU]) (hB.trans (B2.mono hB.size)) (by rw [hW'.out.2]; omega)
  have q0 := hR1.cell 0
  have z0 := hR1.frozen 0
  have q1 := hR1.cell 1
  have z1 := hR1.frozen 1
  have q2 := hR1.cell 2
  have z2 := hR1.frozen 2
  have P := Lib.hid (And.intro (⟨_, _, rfl, p2 _ _ h2, p2 _ _ k2⟩ : IsQ _ (.agg #[.bool (decide (r.num < 0)), .slice A1 L1 C1, .slice A2 L2 C2]) r) (And.intro p3 p1.cells3))
  clear p1 p2 p3 
  go_wp2
  obtain ⟨P1, P2, P3, P4, P5⟩ := P.out
  exact bodyPost_ret (v := .agg #[.bool (decide (r.num < 0)), .slice A1 L1 C1, .slice A2 L2 C2]) (by simp [results, Tryz.results26, go_sem, P3, P4, P5]) rfl ⟨_, rfl, P1, P2⟩
end Go.Proofs.YtdnjdglekifhpaaGreat
namespace Go.Proofs.YtdnjdglekifhpaaGreat
open Go.RowKit
attribute [local go_sem ↓] Go.wp_at_zero Go.wp_at_succ
set_option maxHeartbeats 2000000 in
theorem back_any (v : Value) (z : Int) (k : Nat) (w : World) (h : IsZ w v z) (hk : k ≤ 2000) (sz : Sz z.natAbs 10000) :
    Calls Tryz.prog 75 #[v, .int .i64 k] w fun e w' => ∃ v', e = .returned (.tuple #[v', .int .i64 0]) ∧ IsQ w' v' (mkRat z (2 ^ k)) ∧ Below w.heap.size w w' := by
  have hO := fun w => rof_any 1 (by unfold W64; omega) w
  have hS := fun v w h => shl_any v 1 k (by omega) w h (Sz.one.more (by omega))
  have hp : 0 < 2 ^ k := Nat.pow_pos (by omega)
  have sp : Sz (2 ^ k) 10000 := (Sz.two_pow k).more (by omega)
  have hM := fun u w hu h => rqmake_any v u z (2 ^ k) w h hu (sz.more (by omega)) (sp.more (by omega)) hp
  rw [Nat.one_mul] at hS
  have hz := h
  obtain ⟨nv, rfl, hn⟩ := h
  obtain ⟨An, Ln, Cn, rfl⟩ := hn.frm
  generalize mkRat z (2 ^ k) = r at *
  generalize 2 ^ k = p at *
  generalize decide (z < 0) = s at *
  clear hp sp sz hn
  obtain ⟨W0, hW, hT, hB⟩ := box2 w 30 32 #[.bool s, .slice An Ln Cn] #[.bool false, .slice none 0 0, .slice none 0 0]
  obtain ⟨g, hg⟩ : ∃ g, g = w.heap.size := ⟨_, rfl⟩
  have hW' := Lib.hid (And.intro hW hg)
  rw [← hg] at hT
  have hgw : w.heap.size ≤ g := by omega
  clear hW hg
  obtain ⟨hA, hR⟩ := hT
  replace hz := hz.below hB
  obtain ⟨c1_hA_0, c1_hA_1⟩ := hA.cells2
  obtain ⟨c1_hR_0, c1_hR_1, c1_hR_2⟩ := hR.cells3
  go_enter Tryz.func75, Tryz.ntmps75
  go_wp2_with fail
  rw [← hW'.out.1, ← hW'.out.2]
  refine (hO _).mono ?_
  rintro e w1 ⟨v1, rfl, h1, b1⟩
  replace hz := hz.below b1
  replace hA := hA.below b1 hA.lt
  replace hR := hR.below b1 hR.lt
  replace hB := hB.trans (b1.mono hB.size)
  clear c1_hA_0 c1_hA_1 c1_hR_0 c1_hR_1 c1_hR_2
  obtain ⟨c2_hA_0, c2_hA_1⟩ := hA.cells2
  obtain ⟨c2_hR_0, c2_hR_1, c2_hR_2⟩ := hR.cells3
  go_wp2_with fail
  refine (hS _ _ h1).mono ?_
  rintro e w2 ⟨v2, rfl, h2, b2⟩
  replace hz := hz.below b2
  replace hA := hA.below b2 hA.lt
  replace hR := hR.below b2 hR.lt
  replace h1 := h1.below b2
  replace hB := hB.trans (b2.mono hB.size)
  clear c2_hA_0 c2_hA_1 c2_hR_0 c2_hR_1 c2_hR_2
  obtain ⟨c3_hA_0, c3_hA_1⟩ := hA.cells2
  obtain ⟨c3_hR_0, c3_hR_1, c3_hR_2⟩ := hR.cells3
  go_wp2_with fail
  refine (hM _ _ h2 hz).mono ?_
  rintro e w3 ⟨v3, rfl, ⟨n3, d3, rfl, h3, k3⟩, b3⟩
  replace hz := hz.below b3
  replace hA := hA.below b3 hA.lt
  replace hR := hR.below b3 hR.lt
  replace h1 := h1.below b3
  replace h2 := h2.below b3
  replace hB := hB.trans (b3.mono hB.size)
  clear c3_hA_0 c3_hA_1 c3_hR_0 c3_hR_1 c3_hR_2
  obtain ⟨c4_hA_0, c4_hA_1⟩ := hA.cells2
  obtain ⟨c4_hR_0, c4_hR_1, c4_hR_2⟩ := hR.cells3
  obtain ⟨A2, L2, C2, rfl⟩ := h3.frm
  obtain ⟨A3, L3, C3, rfl⟩ := k3.frm
  obtain ⟨p1, p2, p3⟩ := put3 hR (.bool (decide (r.num < 0))) (.slice A2 L2 C2) (.slice A3 L3 C3) (by simp [noU]) hB (by omega)
  have q0 := hR.cell 0
  have z0 := hR.frozen 0
  have q1 := hR.cell 1
  have z1 := hR.frozen 1
  have q2 := hR.cell 2
  have z2 := hR.frozen 2
  have P := Lib.hid (And.intro (⟨_, _, rfl, p2 _ _ h3, p2 _ _ k3⟩ : IsQ _ (.agg #[.bool (decide (r.num < 0)), .slice A2 L2 C2, .slice A3 L3 C3]) r) (And.intro p3 p1.cells3))
  clear p1 p2 p3 hO hS hM
  go_wp2_with fail
  obtain ⟨P1, P2, P3, P4, P5⟩ := P.out
  exact bodyPost_ret (v := .tuple #[.agg #[.bool (decide (r.num < 0)), .slice A2 L2 C2, .slice A3 L3 C3], .int .i64 0]) (by simp [results, Tryz.results75, go_sem, P3, P4, P5]) rfl ⟨_, rfl, P1, P2⟩
set_option maxHeartbeats 4000000 in
theorem floor_any (v : Value) (a : Rat) (k : Nat) (w : World) (h : IsQ w v a) (hk : k ≤ 2000) (sa : BQ a 10000) :
    Calls Tryz.prog 156 #[v, .int .i64 k] w fun e w' => ∃ v', e = .returned (.tuple #[v', .int .i64 0]) ∧ IsZ w' v' (flr a k) ∧ Below w.heap.size w w' := by
  have hd := Rat.den_pos a
  have fp := flr_pos a k
  have fn := flr_neg a k
  obtain ⟨pv, qv, rfl, hp, hq⟩ := h
  have hS := fun w h => shl_any pv a.num.natAbs k (by omega) w h (sa.1.more (by omega))
  have s2 : Sz (a.num.natAbs * 2 ^ k) 20000 := (sa.1.mul (Sz.two_pow k)).more (by omega)
  have hD := fun u w hu hq => divmod_any u qv (a.num.natAbs * 2 ^ k) a.den w hu hq (s2.more (by omega)) (sa.2.more (by omega)) hd
  have s3 : Sz (a.num.natAbs * 2 ^ k / a.den) 20000 := s2.le (Nat.div_le_self _ _)
  have hO := fun w => rof_any 1 (by unfold W64; omega) w
  have hA := fun u v w hu hv => radd_any u v (a.num.natAbs * 2 ^ k / a.den) 1 w hu hv (s3.fin (by omega)) (Sz.one.fin (by omega))
  obtain ⟨Ap, Lp, Cp, rfl⟩ := hp.frm
  obtain ⟨Aq, Lq, Cq, rfl⟩ := hq.frm
  have hrL := fun (v : Value) (w : World) (h : IsN w v (a.num.natAbs * 2 ^ k % a.den)) => h.open_
  generalize flr a k = z at *
  generalize a.num.natAbs * 2 ^ k / a.den = n at *
  generalize a.num.natAbs * 2 ^ k % a.den = r at *
  generalize a.num.natAbs * 2 ^ k = m at *
  generalize a.num.natAbs = x at *
  generalize a.den = d at *
  clear s2 s3 sa hd
  by_cases hs : a.num < 0
  · have fz := fn hs
    rw [decide_eq_true hs]
    clear fp fn hs
    obtain ⟨W0, hW, hT, hB⟩ := box2 w 32 30 #[.bool true, .slice Ap Lp Cp, .slice Aq Lq Cq] #[.bool false, .slice none 0 0]
    obtain ⟨g, hg⟩ : ∃ g, g = w.heap.size := ⟨_, rfl⟩
    have hW' := Lib.hid (And.intro hW hg)
    rw [← hg] at hT
    have hgw : w.heap.size ≤ g := by omega
    clear hW hg
    obtain ⟨hA0, hR⟩ := hT
    replace hp := hp.below hB
    replace hq := hq.below hB
    obtain ⟨c1_hA0_0, c1_hA0_1, c1_hA0_2⟩ := hA0.cells3
    obtain ⟨c1_hR_0, c1_hR_1⟩ := hR.cells2
    go_enter Tryz.func156, Tryz.ntmps156
    go_wp2_with fail
    rw [← hW'.out.1, ← hW'.out.2]
    refine (hS _ hp).mono ?_
    rintro e w1 ⟨v1, rfl, h1, b1⟩
    replace hp := hp.below b1
    replace hq := hq.below b1
    replace hA0 := hA0.below b1 hA0.lt
    replace hR := hR.below b1 hR.lt
    replace hB := hB.trans (b1.mono hB.size)
    clear c1_hA0_0 c1_hA0_1 c1_hA0_2 c1_hR_0 c1_hR_1
    obtain ⟨c2_hA0_0, c2_hA0_1, c2_hA0_2⟩ := hA0.cells3
    obtain ⟨c2_hR_0, c2_hR_1⟩ := hR.cells2
    go_wp2_with fail
    refine (hD _ _ h1 hq).mono ?_
    rintro e w2 ⟨v2, r2, rfl, h2, hr2, b2⟩
    replace hp := hp.below b2
    replace hq := hq.below b2
    replace hA0 := hA0.below b2 hA0.lt
    replace hR := hR.below b2 hR.lt
    replace h1 := h1.below b2
    replace hB := hB.trans (b2.mono hB.size)
    clear c2_hA0_0 c2_hA0_1 c2_hA0_2 c2_hR_0 c2_hR_1
    obtain ⟨c3_hA0_0, c3_hA0_1, c3_hA0_2⟩ := hA0.cells3
    obtain ⟨c3_hR_0, c3_hR_1⟩ := hR.cells2
    obtain ⟨A2, L2, C2, rfl⟩ := h2.frm
    obtain ⟨A9, L9, C9, rfl, hL9⟩ := hrL _ _ hr2
    by_cases hr0 : 0 < r
    · have hLp : 0 < L9 := by rw [hL9]; exact List.length_pos_iff.2 (fun e => by have := limbs_nil.1 e; omega)
      rw [if_pos hr0] at fz
      have FZ := Lib.hid fz
      clear hL9 hr0 fz
      go_wp2_with fail
      refine (hO _).mono ?_
      rintro e w3 ⟨v3, rfl, h3, b3⟩
      replace hp := hp.below b3
      replace hq := hq.below b3
      replace hA0 := hA0.below b3 hA0.lt
      replace hR := hR.below b3 hR.lt
      replace h1 := h1.below b3
      replace h2 := h2.below b3
      replace hr2 := hr2.below b3
      replace hB := hB.trans (b3.mono hB.size)
      clear c3_hA0_0 c3_hA0_1 c3_hA0_2 c3_hR_0 c3_hR_1
      obtain ⟨c4_hA0_0, c4_hA0_1, c4_hA0_2⟩ := hA0.cells3
      obtain ⟨c4_hR_0, c4_hR_1⟩ := hR.cells2
      go_wp2_with fail
      refine (hA _ _ _ h2 h3).mono ?_
      rintro e w4 ⟨v4, rfl, h4, b4⟩
      replace hp := hp.below b4
      replace hq := hq.below b4
      replace hA0 := hA0.below b4 hA0.lt
      replace hR := hR.below b4 hR.lt
      replace h1 := h1.below b4
      replace h2 := h2.below b4
      replace hr2 := hr2.below b4
      replace h3 := h3.below b4
      replace hB := hB.trans (b4.mono hB.size)
      clear c4_hA0_0 c4_hA0_1 c4_hA0_2 c4_hR_0 c4_hR_1
      obtain ⟨c5_hA0_0, c5_hA0_1, c5_hA0_2⟩ := hA0.cells3
      obtain ⟨c5_hR_0, c5_hR_1⟩ := hR.cells2
      obtain ⟨A4, L4, C4, rfl⟩ := h4.frm
      have hZ : ∀ w' u, IsN w' u (n + 1) → IsZ w' (.agg #[.bool false, u]) ((n + 1 : Nat) : Int) := fun w' u h => ⟨u, by rw [decide_eq_false (by omega)], by rw [Int.natAbs_natCast]; exact h⟩
      have hN := fun u w h => rzneg_any (.agg #[.bool false, u]) ((n + 1 : Nat) : Int) w (hZ w u h)
      rw [← FZ.out] at hN
      clear hZ
      go_wp2_with fail
      refine (hN _ _ h4).mono ?_
      rintro e w5 ⟨v5, rfl, ⟨n5, rfl, h5⟩, b5⟩
      replace hp := hp.below b5
      replace hq := hq.below b5
      replace hA0 := hA0.below b5 hA0.lt
      replace hR := hR.below b5 hR.lt
      replace h1 := h1.below b5
      replace h2 := h2.below b5
      replace hr2 := hr2.below b5
      replace h3 := h3.below b5
      replace h4 := h4.below b5
      replace hB := hB.trans (b5.mono hB.size)
      clear c5_hA0_0 c5_hA0_1 c5_hA0_2 c5_hR_0 c5_hR_1
      obtain ⟨c6_hA0_0, c6_hA0_1, c6_hA0_2⟩ := hA0.cells3
      obtain ⟨c6_hR_0, c6_hR_1⟩ := hR.cells2
      obtain ⟨A5, L5, C5, rfl⟩ := h5.frm
      obtain ⟨p1, p2, p3⟩ := put2 hR (.bool (decide (z < 0))) (.slice A5 L5 C5) (by simp [noU]) hB (by omega)
      have q0 := hR.cell 0
      have z0 := hR.frozen 0
      have q1 := hR.cell 1
      have z1 := hR.frozen 1
      have P := Lib.hid (And.intro (⟨_, rfl, p2 _ _ h5⟩ : IsZ _ (.agg #[.bool (decide (z < 0)), .slice A5 L5 C5]) z) (And.intro p3 p1.cells2))
      clear p1 p2 p3 hS hD hO hA hrL hN
      go_wp2_with fail
      obtain ⟨P1, P2, P3, P4⟩ := P.out
      exact bodyPost_ret (v := .tuple #[.agg #[.bool (decide (z < 0)), .slice A5 L5 C5], .int .i64 0]) (by simp [results, Tryz.results156, go_sem, P3, P4]) rfl ⟨_, rfl, P1, P2⟩
    · have hr1 : r = 0 := by omega
      have hLz : L9 = 0 := by rw [hL9, hr1, limbs_zero]; rfl
      subst hLz
      rw [if_neg hr0, Nat.add_zero] at fz
      have FZ := Lib.hid fz
      clear hL9 hr0 fz hr1
      have hZ : ∀ w' u, IsN w' u (n) → IsZ w' (.agg #[.bool false, u]) ((n : Nat) : Int) := fun w' u h => ⟨u, by rw [decide_eq_false (by omega)], by rw [Int.natAbs_natCast]; exact h⟩
      have hN := fun u w h => rzneg_any (.agg #[.bool false, u]) ((n : Nat) : Int) w (hZ w u h)
      rw [← FZ.out] at hN
      clear hZ
      go_wp2_with fail
      refine (hN _ _ h2).mono ?_
      rintro e w3 ⟨v5, rfl, ⟨n5, rfl, h5⟩, b3⟩
      replace hp := hp.below b3
      replace hq := hq.below b3
      replace hA0 := hA0.below b3 hA0.lt
      replace hR := hR.below b3 hR.lt
      replace h1 := h1.below b3
      replace h2 := h2.below b3
      replace hr2 := hr2.below b3
      replace hB := hB.trans (b3.mono hB.size)
      clear c3_hA0_0 c3_hA0_1 c3_hA0_2 c3_hR_0 c3_hR_1
      obtain ⟨c4_hA0_0, c4_hA0_1, c4_hA0_2⟩ := hA0.cells3
      obtain ⟨c4_hR_0, c4_hR_1⟩ := hR.cells2
      obtain ⟨A5, L5, C5, rfl⟩ := h5.frm
      obtain ⟨p1, p2, p3⟩ := put2 hR (.bool (decide (z < 0))) (.slice A5 L5 C5) (by simp [noU]) hB (by omega)
      have q0 := hR.cell 0
      have z0 := hR.frozen 0
      have q1 := hR.cell 1
      have z1 := hR.frozen 1
      have P := Lib.hid (And.intro (⟨_, rfl, p2 _ _ h5⟩ : IsZ _ (.agg #[.bool (decide (z < 0)), .slice A5 L5 C5]) z) (And.intro p3 p1.cells2))
      clear p1 p2 p3 hS hD hO hA hrL hN
      go_wp2_with fail
      obtain ⟨P1, P2, P3, P4⟩ := P.out
      exact bodyPost_ret (v := .tuple #[.agg #[.bool (decide (z < 0)), .slice A5 L5 C5], .int .i64 0]) (by simp [results, Tryz.results156, go_sem, P3, P4]) rfl ⟨_, rfl, P1, P2⟩
  · have fz := fp hs
    rw [decide_eq_false hs]
    clear fp fn
    have KEY : Hid (∀ w' u, IsN w' u n → IsZ w' (.agg #[.bool false, u]) z) := Lib.hid fun w' u h => ⟨u, by rw [fz, decide_eq_false (by omega)], by rw [fz]; simpa using h⟩
    clear fz hs
    obtain ⟨W0, hW, hT, hB⟩ := box2 w 32 30 #[.bool false, .slice Ap Lp Cp, .slice Aq Lq Cq] #[.bool false, .slice none 0 0]
    obtain ⟨g, hg⟩ : ∃ g, g = w.heap.size := ⟨_, rfl⟩
    have hW' := Lib.hid (And.intro hW hg)
    rw [← hg] at hT
    have hgw : w.heap.size ≤ g := by omega
    clear hW hg
    obtain ⟨hA0, hR⟩ := hT
    replace hp := hp.below hB
    replace hq := hq.below hB
    obtain ⟨c1_hA0_0, c1_hA0_1, c1_hA0_2⟩ := hA0.cells3
    obtain ⟨c1_hR_0, c1_hR_1⟩ := hR.cells2
    go_enter Tryz.func156, Tryz.ntmps156
    go_wp2_with fail
    rw [← hW'.out.1, ← hW'.out.2]
    refine (hS _ hp).mono ?_
    rintro e w1 ⟨v1, rfl, h1, b1⟩
    replace hp := hp.below b1
    replace hq := hq.below b1
    replace hA0 := hA0.below b1 hA0.lt
    replace hR := hR.below b1 hR.lt
    replace hB := hB.trans (b1.mono hB.size)
    clear c1_hA0_0 c1_hA0_1 c1_hA0_2 c1_hR_0 c1_hR_1
    obtain ⟨c2_hA0_0, c2_hA0_1, c2_hA0_2⟩ := hA0.cells3
    obtain ⟨c2_hR_0, c2_hR_1⟩ := hR.cells2
    go_wp2_with fail
    refine (hD _ _ h1 hq).mono ?_
    rintro e w2 ⟨v2, r2, rfl, h2, hr2, b2⟩
    replace hp := hp.below b2
    replace hq := hq.below b2
    replace hA0 := hA0.below b2 hA0.lt
    replace hR := hR.below b2 hR.lt
    replace h1 := h1.below b2
    replace hB := hB.trans (b2.mono hB.size)
    clear c2_hA0_0 c2_hA0_1 c2_hA0_2 c2_hR_0 c2_hR_1
    obtain ⟨c3_hA0_0, c3_hA0_1, c3_hA0_2⟩ := hA0.cells3
    obtain ⟨c3_hR_0, c3_hR_1⟩ := hR.cells2
    obtain ⟨A2, L2, C2, rfl⟩ := h2.frm
    obtain ⟨p1, p2, p3⟩ := put2 hR (.bool false) (.slice A2 L2 C2) (by simp [noU]) hB (by omega)
    have q0 := hR.cell 0
    have z0 := hR.frozen 0
    have q1 := hR.cell 1
    have z1 := hR.frozen 1
    have P := Lib.hid (And.intro (KEY.out _ _ (p2 _ _ h2)) (And.intro p3 p1.cells2))
    clear p1 p2 p3 hS hD hO hA hrL
    go_wp2_with fail
    obtain ⟨P1, P2, P3, P4⟩ := P.out
    exact bodyPost_ret (v := .tuple #[.agg #[.bool false, .slice A2 L2 C2], .int .i64 0]) (by simp [results, Tryz.results156, go_sem, P3, P4]) rfl ⟨_, rfl, P1, P2⟩
set_option maxHeartbeats 4000000 in
theorem ceil_any (v : Value) (a : Rat) (k : Nat) (w : World) (h : IsQ w v a) (hk : k ≤ 2000) (sa : BQ a 10000) :
    Calls Tryz.prog 131 #[v, .int .i64 k] w fun e w' => ∃ v', e = .returned (.tuple #[v', .int .i64 0]) ∧ IsZ w' v' (cel a k) ∧ Below w.heap.size w w' := by
  have hN := fun w h => rqneg_any v a w h
  have hF := fun u w h => floor_any u (-a) k w h hk sa.neg
  have hM := fun u w h => rzneg_any u (flr (-a) k) w h
  rw [show -flr (-a) k = cel a k from rfl] at hM
  have hv := h
  obtain ⟨pv, qv, rfl, hp, hq⟩ := h
  generalize cel a k = z at *
  generalize flr (-a) k = y at *
  clear hp hq sa
  obtain ⟨W0, hW, hT, hB⟩ := box2 w 32 30 #[.bool (decide (a.num < 0)), pv, qv] #[.bool false, .slice none 0 0]
  obtain ⟨g, hg⟩ : ∃ g, g = w.heap.size := ⟨_, rfl⟩
  have hW' := Lib.hid (And.intro hW hg)
  rw [← hg] at hT
  have hgw : w.heap.size ≤ g := by omega
  clear hW hg
  obtain ⟨hA, hR⟩ := hT
  replace hv := hv.below hB
  obtain ⟨c1_hA_0, c1_hA_1, c1_hA_2⟩ := hA.cells3
  obtain ⟨c1_hR_0, c1_hR_1⟩ := hR.cells2
  go_enter Tryz.func131, Tryz.ntmps131
  go_wp2_with fail
  rw [← hW'.out.1, ← hW'.out.2]
  refine (hN _ hv).mono ?_
  rintro e w1 ⟨v1, rfl, h1, b1⟩
  replace hv := hv.below b1
  replace hA := hA.below b1 hA.lt
  replace hR := hR.below b1 hR.lt
  replace hB := hB.trans (b1.mono hB.size)
  clear c1_hA_0 c1_hA_1 c1_hA_2 c1_hR_0 c1_hR_1
  obtain ⟨c2_hA_0, c2_hA_1, c2_hA_2⟩ := hA.cells3
  obtain ⟨c2_hR_0, c2_hR_1⟩ := hR.cells2
  go_wp2_with fail
  refine (hF _ _ h1).mono ?_
  rintro e w2 ⟨v2, rfl, h2, b2⟩
  replace hv := hv.below b2
  replace hA := hA.below b2 hA.lt
  replace hR := hR.below b2 hR.lt
  replace h1 := h1.below b2
  replace hB := hB.trans (b2.mono hB.size)
  clear c2_hA_0 c2_hA_1 c2_hA_2 c2_hR_0 c2_hR_1
  obtain ⟨c3_hA_0, c3_hA_1, c3_hA_2⟩ := hA.cells3
  obtain ⟨c3_hR_0, c3_hR_1⟩ := hR.cells2
  have h2z := h2
  obtain ⟨n2, rfl, h2n⟩ := h2z
  obtain ⟨A2, L2, C2, rfl⟩ := h2n.frm
  clear h2n
  obtain ⟨V1, eV, hL, bV1⟩ := box1 w2 30 #[.bool (decide (y < 0)), .slice A2 L2 C2]
  obtain ⟨X1, eX⟩ : ∃ X, X = w2.heap.size := ⟨_, rfl⟩
  rw [← eX] at hL
  have EV1 := Lib.hid (And.intro eV eX)
  clear eV eX
  replace hv := hv.below bV1
  replace hA := hA.below bV1 hA.lt
  replace hR := hR.below bV1 hR.lt
  replace h1 := h1.below bV1
  replace h2 := h2.below bV1
  replace hB := hB.trans (bV1.mono hB.size)
  obtain ⟨c4_hA_0, c4_hA_1, c4_hA_2⟩ := hA.cells3
  obtain ⟨c4_hR_0, c4_hR_1⟩ := hR.cells2
  clear c3_hA_0 c3_hA_1 c3_hA_2 c3_hR_0 c3_hR_1 c4_hA_0 c4_hA_1 c4_hA_2 c4_hR_0 c4_hR_1
  obtain ⟨c5_hA_0, c5_hA_1, c5_hA_2⟩ := hA.cells3
  obtain ⟨c5_hR_0, c5_hR_1⟩ := hR.cells2
  obtain ⟨c5_hL_0, c5_hL_1⟩ := hL.cells2
  go_wp2_with fail
  rw [← EV1.out.1, ← EV1.out.2]
  refine (hM _ _ h2).mono ?_
  rintro e w3 ⟨v3, rfl, ⟨n3, rfl, h3⟩, b3⟩
  replace hv := hv.below b3
  replace hA := hA.below b3 hA.lt
  replace hR := hR.below b3 hR.lt
  replace h1 := h1.below b3
  replace h2 := h2.below b3
  replace hL := hL.below b3 hL.lt
  replace hB := hB.trans (b3.mono hB.size)
  clear c5_hA_0 c5_hA_1 c5_hA_2 c5_hR_0 c5_hR_1 c5_hL_0 c5_hL_1
  obtain ⟨c6_hA_0, c6_hA_1, c6_hA_2⟩ := hA.cells3
  obtain ⟨c6_hR_0, c6_hR_1⟩ := hR.cells2
  obtain ⟨c6_hL_0, c6_hL_1⟩ := hL.cells2
  obtain ⟨A3, L3, C3, rfl⟩ := h3.frm
  obtain ⟨p1, p2, p3⟩ := put2 hR (.bool (decide (z < 0))) (.slice A3 L3 C3) (by simp [noU]) hB (by omega)
  have q0 := hR.cell 0
  have z0 := hR.frozen 0
  have q1 := hR.cell 1
  have z1 := hR.frozen 1
  have P := Lib.hid (And.intro (⟨_, rfl, p2 _ _ h3⟩ : IsZ _ (.agg #[.bool (decide (z < 0)), .slice A3 L3 C3]) z) (And.intro p3 p1.cells2))
  clear p1 p2 p3 hN hF hM
  go_wp2_with fail
  obtain ⟨P1, P2, P3, P4⟩ := P.out
  exact bodyPost_ret (v := .tuple #[.agg #[.bool (decide (z < 0)), .slice A3 L3 C3], .int .i64 0]) (by simp [results, Tryz.results131, go_sem, P3, P4]) rfl ⟨_, rfl, P1, P2⟩
end Go.Proofs.YtdnjdglekifhpaaGreat
namespace Go.Proofs.YtdnjdglekifhpaaGreat
open Go.RowKit
attribute [local go_sem ↓] Go.wp_at_zero Go.wp_at_succ
theorem cmpI_scale (a b c : Int) (h : 0 < c) : cmpI (a * c) (b * c) = cmpI a b := by
  unfold cmpI
  have h1 : a * c < b * c ↔ a < b := Int.mul_lt_mul_right h
  have h2 : b * c < a * c ↔ b < a := Int.mul_lt_mul_right h
  simp only [h1, h2]
theorem mk_cross (m : Int) (N : Nat) (h : 0 < N) : (mkRat m N).num * N = m * (mkRat m N).den :=
  (Rat.mkRat_eq_iff (n₁ := (mkRat m N).num) (n₂ := m) (Rat.den_nz (mkRat m N)) (by omega : N ≠ 0)).1 (by rw [Rat.mkRat_self])
theorem cmpQ_mk (m n : Int) (N : Nat) (h : 0 < N) : cmpQ (mkRat m N) (mkRat n N) = cmpI m n := by
  have e1 := mk_cross m N h
  have e2 := mk_cross n N h
  have d1 := Rat.den_pos (mkRat m N)
  have d2 := Rat.den_pos (mkRat n N)
  unfold cmpQ
  generalize mkRat m N = x at *
  generalize mkRat n N = y at *
  rw [← cmpI_scale _ _ (N : Int) (by omega), ← cmpI_scale m n ((x.den : Int) * y.den) (Int.mul_pos (by omega) (by omega))]
  congr 1
  · rw [Int.mul_right_comm, e1, Int.mul_assoc]
  · rw [Int.mul_right_comm, e2, Int.mul_assoc, Int.mul_comm (y.den : Int)]
end Go.Proofs.YtdnjdglekifhpaaGreat
namespace Go.Proofs.YtdnjdglekifhpaaGreat
open Go.RowKit
attribute [local go_sem ↓] Go.wp_at_zero Go.wp_at_succ
set_option maxHeartbeats 400000 in
theorem rfrac_any (f : Int) (w : World) : Calls Tryz.prog 74 #[.int .i64 f] w fun e w' => e = .returned (.bool (decide (0 ≤ f ∧ f ≤ 40))) ∧ w = w' := by
  by_cases h0 : 0 ≤ f
  · by_cases h1 : f ≤ 40
    · rw [decide_eq_true ⟨h0, h1⟩]
      go_enter Tryz.func74, Tryz.ntmps74
      go_wp2
      go_ret
      exact ⟨rfl, rfl⟩
    · rw [decide_eq_false (fun h => h1 h.2)]
      go_enter Tryz.func74, Tryz.ntmps74
      go_wp2
      go_ret
      exact ⟨rfl, rfl⟩
  · rw [decide_eq_false (fun h => h0 h.1)]
    go_enter Tryz.func74, Tryz.ntmps74
    go_wp2
    go_ret
    exact ⟨rfl, rfl⟩
set_option maxHeartbeats 2000000 in
theorem rrat_any (a : Int) (k : Nat) (w : World) (hk : k ≤ 40) (ha : In64 a) :
    Calls Tryz.prog 24 #[.int .i64 a, .int .i64 k] w fun e w' => ∃ v', e = .returned (.tuple #[v', .int .i64 0]) ∧ IsQ w' v' (mkRat a (2 ^ k)) ∧ Below w.heap.size w w' := by
  have hF := fun w => rfrac_any k w
  rw [decide_eq_true (by omega)] at hF
  have hO := fun w => rzof_any a ha.1 ha.2 w
  have sz : Sz a.natAbs 1 := Sz.u64 (by have := ha.1; have := ha.2; unfold W64; omega)
  have hBk := fun u w h => back_any u a k w h (by omega) (sz.more (by omega))
  generalize mkRat a (2 ^ k) = r at *
  clear sz ha
  obtain ⟨W0, hW, hR, hB⟩ := box1 w 32 #[.bool false, .slice none 0 0, .slice none 0 0]
  obtain ⟨g, hg⟩ : ∃ g, g = w.heap.size := ⟨_, rfl⟩
  have hW' := Lib.hid (And.intro hW hg)
  rw [← hg] at hR
  have hgw : w.heap.size ≤ g := by omega
  clear hW hg
  skip
  obtain ⟨c1_hR_0, c1_hR_1, c1_hR_2⟩ := hR.cells3
  go_enter Tryz.func24, Tryz.ntmps24
  go_wp2_with fail
  rw [← hW'.out.1, ← hW'.out.2]
  refine (hF _).mono ?_
  rintro e w1 ⟨rfl, rfl⟩
  go_wp2_with fail
  refine (hO _).mono ?_
  rintro e w2 ⟨v1, rfl, h1, b2⟩
  replace hR := hR.below b2 hR.lt
  replace hB := hB.trans (b2.mono hB.size)
  clear c1_hR_0 c1_hR_1 c1_hR_2
  obtain ⟨c2_hR_0, c2_hR_1, c2_hR_2⟩ := hR.cells3
  go_wp2_with fail
  refine (hBk _ _ h1).mono ?_
  rintro e w3 ⟨v2, rfl, ⟨n2, d2, rfl, h2, k2⟩, b3⟩
  replace hR := hR.below b3 hR.lt
  replace h1 := h1.below b3
  replace hB := hB.trans (b3.mono hB.size)
  clear c2_hR_0 c2_hR_1 c2_hR_2
  obtain ⟨c3_hR_0, c3_hR_1, c3_hR_2⟩ := hR.cells3
  obtain ⟨A2, L2, C2, rfl⟩ := h2.frm
  obtain ⟨A3, L3, C3, rfl⟩ := k2.frm
  obtain ⟨p1, p2, p3⟩ := put3 hR (.bool (decide (r.num < 0))) (.slice A2 L2 C2) (.slice A3 L3 C3) (by simp [noU]) hB (by omega)
  have q0 := hR.cell 0
  have z0 := hR.frozen 0
  have q1 := hR.cell 1
  have z1 := hR.frozen 1
  have q2 := hR.cell 2
  have z2 := hR.frozen 2
  have P := Lib.hid (And.intro (⟨_, _, rfl, p2 _ _ h2, p2 _ _ k2⟩ : IsQ _ (.agg #[.bool (decide (r.num < 0)), .slice A2 L2 C2, .slice A3 L3 C3]) r) (And.intro p3 p1.cells3))
  clear p1 p2 p3 hF hO hBk
  go_wp2_with fail
  obtain ⟨P1, P2, P3, P4, P5⟩ := P.out
  exact bodyPost_ret (v := .tuple #[.agg #[.bool (decide (r.num < 0)), .slice A2 L2 C2, .slice A3 L3 C3], .int .i64 0]) (by simp [results, Tryz.results24, go_sem, P3, P4, P5]) rfl ⟨_, rfl, P1, P2⟩
end Go.Proofs.YtdnjdglekifhpaaGreat
namespace Go.Proofs.YtdnjdglekifhpaaGreat
open Go.RowKit
attribute [local go_sem ↓] Go.wp_at_zero Go.wp_at_succ
set_option maxRecDepth 100000 in
set_option maxHeartbeats 8000000 in
theorem pnum_bad (n f : Int) (w : World) (hf : f < 0 ∨ 40 < f) :
    Calls Tryz.prog 63 #[.int .i64 n, .int .i64 f] w fun e w' => e = .returned (.tuple #[.agg #[.bool false, .slice none 0 0, .slice none 0 0], .bool false]) ∧ Below w.heap.size w w' := by
  obtain ⟨W0, hW, hB⟩ : ∃ W0, W0 = w.alloc (.cells #[.bool false, .slice none 0 0, .slice none 0 0] 32) ∧ Below w.heap.size w W0 := ⟨_, rfl, (Below.refl _ w).alloc (Nat.le_refl _) _⟩
  rcases hf with h | h
  · have hd0 : decide (f < 0) = true := decide_eq_true h
    have HW := Lib.hid (And.intro hW hB)
    clear hW hB
    go_enter Tryz.func63, Tryz.ntmps63
    go_wp2
    exact bodyPost_ret (v := .tuple #[.agg #[.bool false, .slice none 0 0, .slice none 0 0], .bool false]) (by simp [results, Tryz.results63, go_sem]) rfl ⟨rfl, by rw [← HW.out.1]; exact HW.out.2⟩
  · have hd0 : decide (f < 0) = false := decide_eq_false (by omega)
    have HW := Lib.hid (And.intro hW hB)
    clear hW hB
    go_enter Tryz.func63, Tryz.ntmps63
    go_wp2
    exact bodyPost_ret (v := .tuple #[.agg #[.bool false, .slice none 0 0, .slice none 0 0], .bool false]) (by simp [results, Tryz.results63, go_sem]) rfl ⟨rfl, by rw [← HW.out.1]; exact HW.out.2⟩
end Go.Proofs.YtdnjdglekifhpaaGreat
namespace Go.Proofs.YtdnjdglekifhpaaGreat
open Go.RowKit Go.Shelf
attribute [local go_sem] Oper.semAt_some
end Go.Proofs.YtdnjdglekifhpaaGreat
namespace Go.Proofs.YtdnjdglekifhpaaGreat
def I64 (a : Int) : Prop := -9223372036854775808 ≤ a ∧ a ≤ 9223372036854775807
def lowest (p : Nat → Bool) : Nat → Nat
  | 0 => 0
  | n + 1 => if lowest p n < n then lowest p n else if p n then n else n + 1
theorem lowest_ok (p : Nat → Bool) : ∀ n, lowest p n ≤ n ∧ (∀ i, i < lowest p n → p i = false) ∧ (lowest p n < n → p (lowest p n) = true)
  | 0 => ⟨Nat.le_refl _, fun i hi => by simp [lowest] at hi, fun h => by simp [lowest] at h⟩
  | n + 1 => by
    obtain ⟨h1, h2, h3⟩ := lowest_ok p n
    unfold lowest
    by_cases h : lowest p n < n
    · rw [if_pos h]; exact ⟨by omega, h2, fun _ => h3 h⟩
    · rw [if_neg h]
      have e : lowest p n = n := by omega
      rw [e] at h2
      cases hp : p n
      · rw [if_neg (by simp)]
        refine ⟨Nat.le_refl _, fun i hi => ?_, fun h => by omega⟩
        rcases Nat.lt_or_ge i n with h' | h'
        · exact h2 i h'
        · obtain rfl : i = n := by omega
          exact hp
      · rw [if_pos rfl]; exact ⟨by omega, h2, fun _ => hp⟩
theorem rise1 : ∀ k < 4, (List.range 255).all (fun j => decide (iat (bk k) j < iat (bk k) (j + 1))) = true := by decide +kernel
theorem sides1 : ∀ k < 4, (List.range 256).all (fun j => decide (-den (k : Nat) ≤ iat (bk k) j) && (decide (iat (bk k) j ≤ den (k : Nat)) && (sgn (k : Nat) || decide (0 ≤ iat (bk k) j)))) = true := by decide +kernel
theorem dens : ∀ k < 4, den (k : Nat) = 2560000000 ∨ den (k : Nat) = 255 := by decide +kernel
theorem bk_lt {k : Nat} (hk : k < 4) {j : Nat} (hj : j < 255) : iat (bk k) j < iat (bk k) (j + 1) := by
  have := List.all_eq_true.1 (rise1 k hk) j (by simpa using hj)
  simpa using this
theorem bk_mono {k : Nat} (hk : k < 4) {i : Nat} : ∀ {j : Nat}, i ≤ j → j ≤ 255 → iat (bk k) i ≤ iat (bk k) j
  | 0, h, _ => by obtain rfl : i = 0 := by omega
                  exact Int.le_refl _
  | j + 1, h, h' => by
    rcases Nat.lt_or_ge i (j + 1) with hlt | hge
    · have a := bk_mono hk (i := i) (j := j) (by omega) (by omega)
      have b := bk_lt hk (j := j) (by omega)
      omega
    · obtain rfl : i = j + 1 := by omega
      exact Int.le_refl _
theorem bk_side {k : Nat} (hk : k < 4) {j : Nat} (hj : j < 256) : -den (k : Nat) ≤ iat (bk k) j ∧ iat (bk k) j ≤ den (k : Nat) ∧ (sgn (k : Nat) = true ∨ 0 ≤ iat (bk k) j) := by
  have := List.all_eq_true.1 (sides1 k hk) j (by simpa using hj)
  simpa using this
theorem iat_out {l : List Int} {j : Nat} (h : l.length ≤ j) : iat l j = 0 := by unfold iat; rw [List.getElem?_eq_none h]; rfl
theorem bk_in {k : Nat} (hk : k < 4) (j : Nat) : -2560000000 ≤ iat (bk k) j ∧ iat (bk k) j ≤ 2560000000 := by
  rcases Nat.lt_or_ge j 256 with h | h
  · obtain ⟨h1, h2, _⟩ := bk_side hk h
    rcases dens k hk with e | e <;> rw [e] at h1 h2 <;> omega
  · rw [iat_out (by rw [bk_len k hk]; exact h)]; omega
def pAt (n : Nat) (num d : Int) (i : Nat) : Bool := decide (num * (2 * den (n : Nat)) ≤ (iat (bk n) i + iat (bk n) (i + 1)) * d)
def share (k num d : Int) : Bool := decide (0 ≤ k ∧ k ≤ 3) && (decide (1 ≤ d) && (decide (num ≤ d) && (decide (-d ≤ num) && (decide (0 ≤ num) || sgn k))))
def codeOf (k num d : Int) : Nat := if share k num d then lowest (pAt k.toNat num d) 255 else 0
def codeE (k num d : Int) : Int := if share k num d then 0 else 1
theorem codeOf_le (k num d : Int) : codeOf k num d ≤ 255 := by unfold codeOf; split; exact (lowest_ok _ _).1; omega
theorem pAt_mono {n : Nat} (hn : n < 4) {num d : Int} (hd : 1 ≤ d) {i j : Nat} (h : i ≤ j) (hj : j < 255) (hp : pAt n num d i = true) : pAt n num d j = true := by
  unfold pAt at *
  have h1 := bk_mono hn (i := i) (j := j) h (by omega)
  have h2 := bk_mono hn (i := i + 1) (j := j + 1) (by omega) (by omega)
  have := Int.mul_le_mul_of_nonneg_right (show iat (bk n) i + iat (bk n) (i + 1) ≤ iat (bk n) j + iat (bk n) (j + 1) by omega) (show 0 ≤ d by omega)
  simp only [decide_eq_true_eq] at *
  omega
end Go.Proofs.YtdnjdglekifhpaaGreat
namespace Go.Proofs.YtdnjdglekifhpaaGreat
theorem share_iff (k num d : Int) : share k num d = true ↔ (0 ≤ k ∧ k ≤ 3) ∧ 1 ≤ d ∧ num ≤ d ∧ -d ≤ num ∧ (0 ≤ num ∨ sgn k = true) := by
  unfold share; simp only [Bool.and_eq_true, decide_eq_true_eq, Bool.or_eq_true]
theorem codeE_cases (k num d : Int) : codeE k num d = 0 ∨ codeE k num d = 1 := by unfold codeE; split <;> simp
theorem codeE_of {k num d : Int} (h : share k num d = true) : codeE k num d = 0 := if_pos h
theorem codeOf_of {k num d : Int} (h : share k num d = true) : codeOf k num d = lowest (pAt k.toNat num d) 255 := if_pos h
theorem dens_pos {n : Nat} (hn : n < 4) : 255 ≤ den (n : Nat) ∧ den (n : Nat) ≤ 2560000000 := by rcases dens n hn with e | e <;> omega
theorem pAt_false {n : Nat} {num d : Int} {i : Nat} : pAt n num d i = false ↔ (iat (bk n) i + iat (bk n) (i + 1)) * d < num * (2 * den (n : Nat)) := by
  unfold pAt; rw [decide_eq_false_iff_not]; omega
theorem pAt_true {n : Nat} {num d : Int} {i : Nat} : pAt n num d i = true ↔ num * (2 * den (n : Nat)) ≤ (iat (bk n) i + iat (bk n) (i + 1)) * d := by
  unfold pAt; rw [decide_eq_true_iff]
theorem kind_nat {k : Int} (h : 0 ≤ k ∧ k ≤ 3) : ∃ n : Nat, k = n ∧ n < 4 := ⟨k.toNat, by omega, by omega⟩
end Go.Proofs.YtdnjdglekifhpaaGreat
namespace Go.Proofs.YtdnjdglekifhpaaGreat
def dist (n : Nat) (num d : Int) (o : Nat) : Nat := (num * den (n : Nat) - iat (bk n) o * d).natAbs
theorem code_spec {n : Nat} (hn : n < 4) {num d : Int} (hs : share n num d = true) :
    (∀ i, i < codeOf n num d → (iat (bk n) i + iat (bk n) (i + 1)) * d < 2 * (num * den (n : Nat))) ∧ (∀ i, codeOf n num d ≤ i → i < 255 → 2 * (num * den (n : Nat)) ≤ (iat (bk n) i + iat (bk n) (i + 1)) * d) := by
  obtain ⟨_, hd, _⟩ := (share_iff _ _ _).1 hs
  rw [codeOf_of hs, Int.toNat_natCast]
  obtain ⟨h1, h2, h3⟩ := lowest_ok (pAt n num d) 255
  have e : num * (2 * den (n : Nat)) = 2 * (num * den (n : Nat)) := by rw [Int.mul_left_comm]
  refine ⟨fun i hi => by have := pAt_false.1 (h2 i hi); rwa [e] at this, fun i h h' => ?_⟩
  have := pAt_true.1 (pAt_mono hn hd h h' (h3 (by omega)))
  rwa [e] at this
theorem near_dist {n : Nat} (hn : n < 4) {num d : Int} (hs : share n num d = true) {o : Nat} (ho : o < 256) :
    (o < codeOf n num d → dist n num d (codeOf n num d) < dist n num d o) ∧ (codeOf n num d ≤ o → dist n num d (codeOf n num d) ≤ dist n num d o) := by
  obtain ⟨lo, hi⟩ := code_spec hn hs
  obtain ⟨_, hd, _⟩ := (share_iff _ _ _).1 hs
  have hc := codeOf_le n num d
  generalize codeOf n num d = c at *
  unfold dist
  generalize num * den (n : Nat) = X at *
  constructor
  · intro h
    have a := lo (c - 1) (by omega)
    rw [Nat.sub_add_cancel (by omega), Int.add_mul] at a
    have m1 := Int.mul_le_mul_of_nonneg_right (bk_mono hn (i := o) (j := c - 1) (by omega) (by omega)) (show 0 ≤ d by omega)
    have m2 := bk_lt hn (j := c - 1) (by omega)
    rw [Nat.sub_add_cancel (by omega)] at m2
    have m3 := Int.mul_lt_mul_of_pos_right m2 (show 0 < d by omega)
    omega
  · intro h
    rcases Nat.eq_or_lt_of_le h with rfl | h
    · exact Nat.le_refl _
    · have a := hi c (Nat.le_refl _) (by omega)
      rw [Int.add_mul] at a
      have m1 := Int.mul_le_mul_of_nonneg_right (bk_mono hn (i := c + 1) (j := o) (by omega) (by omega)) (show 0 ≤ d by omega)
      have m3 := Int.mul_lt_mul_of_pos_right (bk_lt hn (j := c) (by omega)) (show 0 < d by omega)
      omega
end Go.Proofs.YtdnjdglekifhpaaGreat
namespace Go.Proofs.YtdnjdglekifhpaaGreat
open Go.RowKit
theorem yat_snoc_take (l : List Nat) (k : Nat) (h : k < l.length) : l.take (k + 1) = l.take k ++ [yat l k] := by
  rw [List.take_succ_eq_append_getElem h]; simp [yat, h]
end Go.Proofs.YtdnjdglekifhpaaGreat
namespace Go.Proofs.YtdnjdglekifhpaaGreat
open Go.RowKit
theorem take_not {α : Type} [Inhabited α] {l : List α} {k : Nat} {x y : α} (h : x ∉ l.take k) (e : l.take (k + 1) = l.take k ++ [y]) (hne : x ≠ y) : x ∉ l.take (k + 1) := by
  rw [e, List.mem_append, List.mem_singleton]
  rintro (h1 | h1)
  · exact h h1
  · exact hne h1
end Go.Proofs.YtdnjdglekifhpaaGreat
namespace Go.Proofs.YtdnjdglekifhpaaGreat
def great : List Int → Int
  | [] => 0
  | x :: r => max (max (great r) x) (-x)
theorem great_snoc (l : List Int) (x : Int) : great (l ++ [x]) = max (max (great l) x) (-x) := by
  induction l with
  | nil => rfl
  | cons y r ih => simp only [List.cons_append, great, ih]; omega
def oddB (sg : Bool) (x : Int) : Bool := decide (x = -9223372036854775808) || (decide (x < 0) && !sg)
def blkR (k s : Int) (cs : List Nat) (wd : List Int) : Bool :=
  decide (cs.length + wd.length ≤ 4096) && (if k = 4 then decide (s = 0) && (decide (cs = []) && !wd.contains (-9223372036854775808))
    else decide (0 ≤ k ∧ k ≤ 3) && (decide (wd = []) && (decide (0 ≤ s) && (if s = 0 then cs.all (fun c => decide (c = codeOf k 0 1)) else cs.contains (codeOf k 1 1) || (decide (codeE k (-1) 1 = 0) && cs.contains (codeOf k (-1) 1))))))
def packC (k : Int) (l : List Int) : List Nat := l.map fun x => codeOf k x (max (great l) 1)
end Go.Proofs.YtdnjdglekifhpaaGreat
namespace Go.Proofs.YtdnjdglekifhpaaGreat
open Go.RowKit
attribute [local go_sem ↓] Go.wp_at_zero Go.wp_at_succ
theorem cellB {w w' : World} {a : Addr} {v : Value} (h : Below w.heap.size w w') (hc : w.cell? a = some v) : w'.cell? a = some v := (h.cell (World.block_lt_of_cell? w _ hc)).trans hc
end Go.Proofs.YtdnjdglekifhpaaGreat
namespace Go.Proofs.YtdnjdglekifhpaaGreat
open Go.RowKit
theorem Blk.quad {w : World} {g : Nat} {t : TypeId} {a b c d : Value} (h : Blk w g t #[a, b, c, d]) : w.cell? ⟨g, 0, none⟩ = some a ∧ w.cell? ⟨g, 1, none⟩ = some b ∧ w.cell? ⟨g, 2, none⟩ = some c ∧ w.cell? ⟨g, 3, none⟩ = some d := ⟨h.cell 0, h.cell 1, h.cell 2, h.cell 3⟩
end Go.Proofs.YtdnjdglekifhpaaGreat
namespace Go.Proofs.YtdnjdglekifhpaaGreat
open Go.ChangeShapes Go.WideShapes Go.ChangeAt Go.RowKit
section
variable {H : Type} {enc : TypeId × Value → H} {P : Program}
theorem post_of_below {f : Func} {s : ChangeSpec} {apart fresh handsOn again : Bool} {W W' : World} {args : Array Value} {v : Value} {ds gs : List (DataW H)} {before pa pv : List MemPlace}
    (hW : DataW.Whole enc P f.params.toList s.vars apart W args.toList ds gs before)
    (hres : ∀ (b : Nat) (sp : Nat → Bool) (hd : Bool), DataW.TrodAll enc P W' b sp hd f.resultTypes.toList (v.resultList f.resultTypes.size) (s.fn H (ds ++ gs)).results [])
    (hargs : ∀ sp : Nat → Bool, (∀ p ∈ before, sp p.block = true) → DataW.TrodAll enc P W' 0 sp true f.params.toList args.toList (s.fn H (ds ++ gs)).args pa)
    (hvars : ∀ sp : Nat → Bool, (∀ p ∈ before, sp p.block = true) → DataW.TrodVars enc P W' sp s.vars (s.fn H (ds ++ gs)).vars pv)
    (hps : before = pa ++ pv) (hb : Below W.heap.size W W')
    (hok : ∀ (j : Nat) (t : TypeId) (r : Value), f.resultTypes[j]? = some t → (v.resultList f.resultTypes.size)[j]? = some r → Value.okWide P W' .any 0 t r) :
    s.post enc P f apart fresh handsOn again W args v W' := by
  have hlt : ∀ p ∈ before, p.block < W.heap.size := fun p hp => hW.lt p hp
  have hold : ∀ p ∈ before, (fun b => decide (b < W.heap.size)) p.block = true := fun p hp => by simpa using hlt p hp
  refine ⟨ds, gs, before, [], pa, pv, hW, hres _ _ _, hargs _ hold, hvars _ hold, World.keptBut_mono (fun p hp => ⟨hp, ?_⟩) (hb.frame (· ∈ before)), fun _ => ?_⟩
  · rw [hps, List.mem_append] at hp
    exact Or.inr hp
  · obtain ⟨_, _, _, _, _, hz, hn⟩ := hW
    refine ⟨hok, _, _, ([] ++ pa) ++ pv, ⟨[] ++ pa, pv, trodAll_append (hargs _ (fun _ _ => rfl)) (hres _ _ _), hvars _ (fun _ _ => rfl), rfl, ?_, ?_⟩, ?_⟩
    · intro b off hp
      have hin : MemPlace.cell b off ∈ before := by rw [hps]; simpa using hp
      rw [hb.frozen (hlt _ hin)]
      exact hz b off hin
    · intro ha
      have := hn ha
      rw [hps] at this
      simpa using this
    · intro p hp _
      rw [hps]
      simpa using hp
theorem below_trodAll (hl : laidOutB P = true) {W W' : World} (hb : Below W.heap.size W W') (sp : Nat → Bool) : ∀ {ts : List TypeId} {vs : List Value} {ds : List (DataW H)} {ps : List MemPlace},
    (∀ t ∈ ts, P.readableRec t = true ∧ t < P.types.size) → DataW.TrodAll enc P W 0 (fun _ => true) true ts vs ds ps → (∀ x ∈ ps, x.block < W.heap.size) → (∀ x ∈ ps, sp x.block = true) →
    DataW.TrodAll enc P W' 0 sp true ts vs ds ps := by
  intro ts
  induction ts with
  | nil => intro vs ds ps _ h _ _; obtain ⟨rfl, rfl, rfl⟩ := trodAll_nil h; rfl
  | cons t ts ih =>
    intro vs ds ps hr h hlt hsp
    obtain ⟨v, vs', d, ds', p, q, rfl, rfl, rfl, h1, h2⟩ := trodAll_cons h
    obtain ⟨k1, k2⟩ := hr t (List.mem_cons_self ..)
    exact ⟨p, q, WideElems.Trod_stays hl k1 k2 h1 (fun x hx => hb.same (hlt x (List.mem_append_left _ hx))) (fun x hx => hsp x (List.mem_append_left _ hx)), ih (fun t' ht => hr t' (List.mem_cons_of_mem _ ht)) h2 (fun x hx => hlt x (List.mem_append_right _ hx)) (fun x hx => hsp x (List.mem_append_right _ hx)), rfl⟩
theorem trodAll_len {w : World} {b : Nat} {sp : Nat → Bool} {hd : Bool} : ∀ {ts : List TypeId} {vs : List Value} {ds : List (DataW H)} {ps : List MemPlace}, DataW.TrodAll enc P w b sp hd ts vs ds ps → ds.length = ts.length := by
  intro ts
  induction ts with
  | nil => intro vs ds ps h; obtain ⟨rfl, rfl, rfl⟩ := trodAll_nil h; rfl
  | cons t ts ih =>
    intro vs ds ps h
    obtain ⟨v, vs', d, ds', p, q, rfl, rfl, rfl, h1, h2⟩ := trodAll_cons h
    simp [ih h2]
end
theorem Tryz.own : ownKnob Tryz.prog.godebug = none := by kernel_rfl
theorem Tryz.laidOut : laidOutB Tryz.prog = true := by kernel_rfl
def LawWalk (f : FuncId) (fn : Func) : Prop :=
  ∀ (W : World) (base : Nat) (args : Array Value) (H : Type) (enc : TypeId × Value → H) (ds : List (DataW H)) (p : List MemPlace),
    (∀ (j : Nat) t v, fn.params[j]? = some t → args[j]? = some v → Value.okWide Tryz.prog W .any base t v) →
    DataW.TrodAll enc Tryz.prog W 0 (fun _ => true) true fn.params.toList args.toList ds p → (∀ x ∈ p, x.block < W.heap.size) →
    (DataW.weightsEach Tryz.prog fn.params.toList ds).all (· ≤ reachBytes) = true →
    Calls Tryz.prog f args W fun e W' => e = .returned (.bool true) ∧ Below W.heap.size W W'
set_option maxRecDepth 100000 in
theorem law_lifted (f : FuncId) (fn : Func) (s : ChangeSpec) (conds : List PathCond) (_ : conds = []) (hvars : s.vars = []) (hres : fn.resultTypes = #[4])
    (hfn : Tryz.prog.funcs[f]? = some fn) (noInit : Tryz.checked.prog.inits.idxOf? f = none) (hread : ∀ t ∈ fn.params.toList, Tryz.prog.readableRec t = true ∧ t < Tryz.prog.types.size)
    (hs : ∀ (H : Type) (ds : List (DataW H)), ds.length = fn.params.toList.length → (s.fn H ds).results = [.lit (.bool true)] ∧ (s.fn H ds).args = ds ∧ (s.fn H ds).vars = [])
    (wit : ∀ (os : Os), os.Started → ∀ (H : Type) (enc : TypeId × Value → H), ∃ (w : World) (tape : Tape) (i : Input), w.os = os ∧ (w.forCall tape i).Shaped Tryz.checked.prog ∧ i.vars = [] ∧ Input.okWide Tryz.checked.prog (w.forCall tape i) .any w.heap.size f i ∧
      s.pre6 enc Tryz.checked.prog fn conds false (w.forCall tape i).memory i.args ∧ ({} : Assume).holds Tryz.checked.prog (lone (Frame.enter Tryz.checked.prog f i.args .normal) [] (w.forCall tape i)))
    (walk : LawWalk f fn) (os : Os) (started : os.Started) (H : Type) (enc : TypeId × Value → H) :
    ReturnsInHanded {} Tryz.checked os f .any (s.pre6 enc Tryz.prog fn conds false) (s.post enc Tryz.prog fn false true false false) := by
  refine returnsInHanded_of_change_sized (C := Tryz.checked) Tryz.own started noInit hfn (wit os started H enc) ?_
  intro W base args ds gs before hval hW _ hsz _
  have hW' := hW
  obtain ⟨p, q, hA, hV, rfl, _, _⟩ := hW
  rw [hvars] at hV
  obtain ⟨rfl, rfl⟩ := trodVars_none hV
  have hlt : ∀ x ∈ p, x.block < W.heap.size := fun x hx => hW'.lt x (by simpa using hx)
  have hlen : ds.length = fn.params.toList.length := trodAll_len hA
  obtain ⟨e1, e2, e3⟩ := hs H ds hlen
  have hsz' : (DataW.weightsEach Tryz.prog fn.params.toList ds).all (· ≤ reachBytes) = true := by
    have hv : s.plain.varTypes Tryz.checked.prog = [] := by simp [ChangeSpec.plain, hvars, DataSpec.varTypes]
    rw [hv, List.append_nil, List.append_nil] at hsz
    exact hsz
  refine (walk W base args H enc ds p hval hA hlt hsz').mono fun e W' ⟨he, hb⟩ => ?_
  subst he
  refine ⟨_, rfl, post_of_below (pa := p) (pv := []) hW' (fun _ _ _ => ?_) (fun sp hsp => ?_) (fun _ _ => ?_) rfl hb ?_⟩
  · rw [hres, List.append_nil, e1]
    exact trodAll_mk1 (shut_bool Tryz.underlying4 true)
  · rw [List.append_nil, e2]
    exact below_trodAll Tryz.laidOut hb sp hread hA hlt (fun x hx => hsp x (by simpa using hx))
  · rw [hvars, List.append_nil, e3]; rfl
  · exact ok_one hres rfl (okWide_bool_mk Tryz.underlying4 true)
end Go.Proofs.YtdnjdglekifhpaaGreat
namespace Go.Proofs.YtdnjdglekifhpaaGreat
open Go.ChangeShapes Go.WideShapes Go.ChangeAt Go.RowKit
theorem wf_u64 {n : Int} (h : (Lit.int .u64 n).wf = true) : 0 ≤ n ∧ n < (W64 : Int) := by
  have h1 : IntKind.u64.min = 0 := rfl
  have h2 : IntKind.u64.max = 18446744073709551615 := rfl
  simp only [Lit.wf, Bool.and_eq_true, decide_eq_true_eq] at h
  unfold W64
  omega
end Go.Proofs.YtdnjdglekifhpaaGreat
namespace Go.Proofs.YtdnjdglekifhpaaGreat
open Go.RowKit
theorem bkz_nat (k : Nat) (hk : k < 4) : bkz (k : Nat) = bk k := by
  obtain rfl | rfl | rfl | rfl : k = 0 ∨ k = 1 ∨ k = 2 ∨ k = 3 := by omega
  all_goals rfl
end Go.Proofs.YtdnjdglekifhpaaGreat
namespace Go.Proofs.YtdnjdglekifhpaaGreat
open Go.RowKit
attribute [local go_sem ↓] Go.wp_at_zero Go.wp_at_succ
end Go.Proofs.YtdnjdglekifhpaaGreat
namespace Go.Proofs.YtdnjdglekifhpaaGreat
open Go.ChangeShapes Go.WideShapes Go.ChangeAt Go.RowKit
theorem wf_I64 {n : Int} (h : (Lit.int .i64 n).wf = true) : I64 n := by
  have h1 : IntKind.i64.min = -9223372036854775808 := rfl
  have h2 : IntKind.i64.max = 9223372036854775807 := rfl
  simp only [Lit.wf, Bool.and_eq_true, decide_eq_true_eq] at h
  unfold I64
  omega
theorem wf_U8 {n : Int} (h : (Lit.int .u8 n).wf = true) : 0 ≤ n ∧ n < 256 := by
  have h1 : IntKind.u8.min = 0 := rfl
  have h2 : IntKind.u8.max = 255 := rfl
  simp only [Lit.wf, Bool.and_eq_true, decide_eq_true_eq] at h
  omega
end Go.Proofs.YtdnjdglekifhpaaGreat
namespace Go.Proofs.YtdnjdglekifhpaaGreat
open Go.RowKit
attribute [local go_sem ↓] Go.wp_at_zero Go.wp_at_succ
end Go.Proofs.YtdnjdglekifhpaaGreat
namespace Go.Proofs.YtdnjdglekifhpaaGreat
open Go.RowKit
attribute [local go_sem ↓] Go.wp_at_zero Go.wp_at_succ
theorem run_max3_int {P : Program} (t : Array TypeId) (y : TypeId) (W : World) (a b c : Int) : (Builtin.max_ t y #[.int .i64 a, .int .i64 b, .int .i64 c]).run P W = .ok (.int .i64 (max (max a b) c)) W := by
  by_cases h : a < b
  · rw [Int.max_eq_right (show a ≤ b by omega)]
    by_cases h' : b < c
    · rw [Int.max_eq_right (by omega)]; simp [Builtin.max_, Builtin.max2, h, h']
    · rw [Int.max_eq_left (by omega)]; simp [Builtin.max_, Builtin.max2, h, h']
  · rw [Int.max_eq_left (show b ≤ a by omega)]
    by_cases h' : a < c
    · rw [Int.max_eq_right (by omega)]; simp [Builtin.max_, Builtin.max2, h, h']
    · rw [Int.max_eq_left (by omega)]; simp [Builtin.max_, Builtin.max2, h, h']
theorem great_take (l : List Int) (j : Nat) (h : j < l.length) : great (l.take (j + 1)) = max (max (great (l.take j)) (iat l j)) (-iat l j) := by rw [iat_snoc_take l j h, great_snoc]
end Go.Proofs.YtdnjdglekifhpaaGreat
namespace Go.Proofs.YtdnjdglekifhpaaGreat
def mayB (k z m o : Int) : Bool := decide (0 ≤ k ∧ k ≤ 3 ∧ 1 ≤ z ∧ z ≤ 4096 ∧ 0 ≤ m ∧ 0 ≤ o)
def staysB (m o long g : Int) : Bool := decide (long < m) || (decide (0 < o) && decide (o < g))
def greatW : List Int → Int
  | [] => 0
  | x :: r => max (max (greatW r) x) (IntKind.i64.wrap (-x))
theorem greatW_eq {l : List Int} (h : ∀ x ∈ l, I64 x) (hm : ∀ x ∈ l, x ≠ -9223372036854775808) : greatW l = great l := by
  induction l with
  | nil => rfl
  | cons y r ih =>
    have h1 := h y (by simp)
    have h2 := hm y (by simp)
    have e : IntKind.i64.wrap (-y) = -y := by unfold I64 at h1; rw [IntKind.wrap_i64]; omega
    simp only [greatW, great, e, ih (fun x hx => h x (by simp [hx])) (fun x hx => hm x (by simp [hx]))]
def partZ (z : Nat) (l : List Int) (i : Nat) : List Int := (l.drop (i * z)).take z
def partN (z n : Nat) : Nat := (n + z - 1) / z
theorem partN_lt {z n i : Nat} (hz : 1 ≤ z) : i < partN z n ↔ i * z < n := by
  unfold partN
  rw [Nat.lt_div_iff_mul_lt (by omega)]
  constructor <;> intro h <;> omega
theorem partN_le {z n : Nat} (hz : 1 ≤ z) : partN z n ≤ n := by
  rcases Nat.lt_or_ge n (partN z n) with h | h
  · have := (partN_lt hz).1 h
    have h2 : n * 1 ≤ n * z := Nat.mul_le_mul_left n hz
    omega
  · exact h
theorem partN_int {z n : Nat} (hz : 1 ≤ z) : ((partN z n : Nat) : Int) = ((n : Int) + z - 1) / z := by
  unfold partN
  rw [Int.natCast_ediv]
  congr 1
  omega
def kindOf (k m o : Int) (n : Nat) (p : List Int) : Int := if staysB m o n (greatW p) = true then 4 else k
def oddP (kk : Int) (p : List Int) : Bool := p.any (oddB (kk == 4 || sgn kk))
def bkOf (kk : Int) (p : List Int) : Bk := if kk = 4 then (4, 0, [], p) else (kk, great p, packC kk p, [])
def bkR (b : Bk) : Bool := blkR b.1 b.2.1 b.2.2.1 b.2.2.2
def okAt (k z m o n : Int) (b : Bk) (i : Nat) : Bool :=
  bkR b && (decide (b.1 = if staysB m o n (if b.1 = 4 then greatW b.2.2.2 else b.2.1) = true then 4 else k) && decide ((bkLen b : Int) = min z (n - (i : Int) * z)))
def okTo (k z m o n : Int) (bs : List Bk) (j : Nat) : Bool := (List.range j).all fun i => okAt k z m o n (bs[i]?.getD (0, 0, [], [])) i
theorem okTo_succ (k z m o n : Int) (bs : List Bk) (j : Nat) : okTo k z m o n bs (j + 1) = (okTo k z m o n bs j && okAt k z m o n (bs[j]?.getD (0, 0, [], [])) j) := by
  unfold okTo; rw [List.range_succ, List.all_append]; simp
theorem okTo_le {k z m o n : Int} {bs : List Bk} {i j : Nat} (h : okTo k z m o n bs i = false) (hij : i ≤ j) : okTo k z m o n bs j = false := by
  unfold okTo at *
  rw [List.all_eq_false] at *
  obtain ⟨x, hx, hp⟩ := h
  exact ⟨x, List.mem_range.2 (Nat.lt_of_lt_of_le (List.mem_range.1 hx) hij), hp⟩
def rightS (s : St) : Bool := match s with
  | (k, z, m, o, n, bs) => mayB k z m o && (decide (0 ≤ n ∧ n ≤ 4096 ∧ (bs.length : Int) = (n + z - 1) / z) && okTo k z m o n bs bs.length)
theorem lenS_snoc (l : List Bk) (b : Bk) : lenS (l ++ [b]) = lenS l + bkLen b := by
  induction l with
  | nil => simp [lenS]
  | cons y r ih => simp only [List.cons_append, lenS, ih]; omega
end Go.Proofs.YtdnjdglekifhpaaGreat
namespace Go.Proofs.YtdnjdglekifhpaaGreat
open Go.RowKit
section
variable {w w' : World} {es : List Eb} {bs : List Bk} {v : Value}
theorem flatB_len : ∀ es : List Eb, (flatB es).length = es.length * 4
  | [] => rfl
  | e :: r => by
    have := flatB_len r
    unfold flatB at *
    rw [List.flatMap_cons, List.length_append, this]
    simp [cellsE]; omega
end
end Go.Proofs.YtdnjdglekifhpaaGreat
namespace Go.Proofs.YtdnjdglekifhpaaGreat
open Go.ChangeShapes Go.WideShapes Go.ChangeAt Go.RowKit Go.Joins
attribute [local go_sem ↓] Go.wp_at_zero Go.wp_at_succ
theorem bytes_i64k : Tryz.prog.bytesOf 2 = 8 := by kernel_rfl
theorem bytes_u8k : Tryz.prog.bytesOf 5 = 1 := by kernel_rfl
section
variable {H : Type} {enc : TypeId × Value → H} {W : World}
theorem weights_at11 {P : Program} {ts : List TypeId} {ds : List (DataW H)} {B : Nat} (h : ∀ n ∈ DataW.weightsEach P ts ds, n ≤ B) {j : Nat} {t : TypeId} {d : DataW H} (ht : ts[j]? = some t) (hd : ds[j]? = some d) : ∀ n ∈ d.weights P t, n ≤ B :=
  fun n hn => h n (DataW.weights_mem_each ht hd n hn)
set_option maxRecDepth 100000 in
theorem open_i64k {t : TypeId} {fuel : Nat} {v : Value} {x : DataW H × List MemPlace} (ht : Tryz.prog.underlying t = some (.slice 2))
    (h : DataW.trod enc Tryz.prog W 0 (fun _ => true) true fuel t [v] = some x) (hlt : ∀ p ∈ x.2, p.block < W.heap.size) (hz : ∀ n ∈ x.1.weights Tryz.prog t, n ≤ reachBytes) : ∃ l, IsI W v l ∧ (∀ n ∈ l, I64 n) ∧ l.length ≤ 17592186044416 := by
  rcases open_ints ht Tryz.underlying2 (by kernel_rfl : Tryz.prog.cellsOf 2 = 1) h with ⟨hcs, hx⟩ | ⟨a, len, cap, zs, hcs, _, hl, hm, hzl, hx, hcell, hwz⟩
  · simp at hcs
    subst hcs
    exact ⟨[], IsI.nil W, by simp, by simp⟩
  · simp at hcs
    subst hcs
    subst hx
    simp only [if_true] at hzl
    unfold maxLen at hm
    have hll : (zs.take len).length = len := by simp; omega
    refine ⟨zs.take len, ⟨some a, cap, by rw [hll], by omega, by omega, ?_⟩, fun n hn => wf_I64 (hwz n (List.mem_of_mem_take hn)), ?_⟩
    · rw [hll]
      refine ⟨by rw [is_len, hll]; omega, fun h0 => ⟨a, rfl, ?_, fun j u hu => ?_⟩⟩
      · obtain ⟨b, off, spot⟩ := a
        have hspot : spot = none := by simpa [Addr.add] using World.cell?_spot (hcell 0 (by omega))
        subst hspot
        exact hlt (.cell b off) (MemPlace.mem_row.2 ⟨0, by omega, by simp⟩)
      · have hj : j < len := by
          rcases Nat.lt_or_ge j len with h' | h'
          · exact h'
          · rw [List.getElem?_eq_none (by rw [is_len, hll]; exact h')] at hu; cases hu
        have hjz : j < zs.length := by omega
        rw [hcell j hjz]
        rw [is_at _ j (by rw [hll]; exact hj)] at hu
        rw [← Option.some.inj hu]
        have e : zs.getD j 0 = zs[j] := by simp [List.getD, hjz]
        have e2 : iat (zs.take len) j = zs[j] := by simp [iat, hj, hjz]
        rw [e, e2]
    · have := hz (((lits .i64 (zs.take len) : List (DataW H)).length + (lits .i64 (zs.drop len) : List (DataW H)).length) * Tryz.prog.bytesOf 2) (by simp [DataW.weights, ht])
      rw [bytes_i64k] at this
      have e1 : (lits .i64 (zs.take len) : List (DataW H)).length = len := by unfold lits; rw [List.length_map, hll]
      have e2 : reachBytes = 140737488351232 := rfl
      have : (zs.take len).length * 8 ≤ reachBytes := by
        rw [hll]
        rw [e1] at this
        exact Nat.le_trans (Nat.mul_le_mul_right 8 (Nat.le_add_right _ _)) this
      omega
set_option maxRecDepth 100000 in
theorem open_u8k {t : TypeId} {fuel : Nat} {v : Value} {x : DataW H × List MemPlace} (ht : Tryz.prog.underlying t = some (.slice 5))
    (h : DataW.trod enc Tryz.prog W 0 (fun _ => true) true fuel t [v] = some x) (hlt : ∀ p ∈ x.2, p.block < W.heap.size) (hz : ∀ n ∈ x.1.weights Tryz.prog t, n ≤ reachBytes) : ∃ l, IsY W v l ∧ l.length ≤ 140737488351232 := by
  rcases open_ints ht Tryz.underlying5 (by kernel_rfl : Tryz.prog.cellsOf 5 = 1) h with ⟨hcs, hx⟩ | ⟨a, len, cap, zs, hcs, _, hl, hm, hzl, hx, hcell, hwz⟩
  · simp at hcs
    subst hcs
    exact ⟨[], IsY.nil W, by simp⟩
  · simp at hcs
    subst hcs
    subst hx
    simp only [if_true] at hzl
    unfold maxLen at hm
    have hll : ((zs.take len).map Int.toNat).length = len := by simp; omega
    refine ⟨(zs.take len).map Int.toNat, ⟨some a, cap, by rw [hll], by omega, by omega, fun n hn => ?_, ?_⟩, ?_⟩
    · obtain ⟨z, hz', rfl⟩ := List.mem_map.1 hn
      have := wf_U8 (hwz z (List.mem_of_mem_take hz'))
      omega
    · rw [hll]
      refine ⟨by rw [ys_len, hll]; omega, fun h0 => ⟨a, rfl, ?_, fun j u hu => ?_⟩⟩
      · obtain ⟨b, off, spot⟩ := a
        have hspot : spot = none := by simpa [Addr.add] using World.cell?_spot (hcell 0 (by omega))
        subst hspot
        exact hlt (.cell b off) (MemPlace.mem_row.2 ⟨0, by omega, by simp⟩)
      · have hj : j < len := by
          rcases Nat.lt_or_ge j len with h' | h'
          · exact h'
          · rw [List.getElem?_eq_none (by rw [ys_len, hll]; exact h')] at hu; cases hu
        have hjz : j < zs.length := by omega
        rw [hcell j hjz]
        rw [ys_at _ j (by rw [hll]; exact hj)] at hu
        rw [← Option.some.inj hu]
        have e : zs.getD j 0 = zs[j] := by simp [List.getD, hjz]
        have hmem : zs[j] ∈ zs := List.getElem_mem hjz
        have hpos := (wf_U8 (hwz _ hmem)).1
        have e2 : yat ((zs.take len).map Int.toNat) j = (zs[j]).toNat := by simp [yat, hj, hjz]
        rw [e, e2]
        congr 2
        omega
    · have := hz (((lits .u8 (zs.take len) : List (DataW H)).length + (lits .u8 (zs.drop len) : List (DataW H)).length) * Tryz.prog.bytesOf 5) (by simp [DataW.weights, ht])
      rw [bytes_u8k, Nat.mul_one] at this
      have e1 : (lits .u8 (zs.take len) : List (DataW H)).length = len := by unfold lits; rw [List.length_map]; simp; omega
      have e2 : reachBytes = 140737488351232 := rfl
      rw [hll]
      omega
end
end Go.Proofs.YtdnjdglekifhpaaGreat
namespace Go.Proofs.YtdnjdglekifhpaaGreat
open Go.ChangeShapes Go.WideShapes Go.ChangeAt Go.RowKit Go.Joins Go.Deep
def BkIn (b : Bk) : Prop := I64 b.1 ∧ I64 b.2.1 ∧ (∀ x ∈ b.2.2.2, I64 x) ∧ b.2.2.1.length ≤ 140737488351232 ∧ b.2.2.2.length ≤ 17592186044416
theorem list_of {α : Type} {P : Nat → α → Prop} : ∀ n, (∀ i, i < n → ∃ e, P i e) → ∃ es : List α, es.length = n ∧ ∀ i e, es[i]? = some e → P i e
  | 0, _ => ⟨[], rfl, fun i e h => by simp at h⟩
  | n + 1, h => by
    obtain ⟨es, hl, hp⟩ := list_of n fun i hi => h i (by omega)
    obtain ⟨e, he⟩ := h n (by omega)
    refine ⟨es ++ [e], by simp [hl], fun i x hx => ?_⟩
    rcases Nat.lt_or_ge i n with h' | h'
    · rw [List.getElem?_append_left (by omega)] at hx
      exact hp i x hx
    · have hin : i = n := by
        rcases Nat.eq_or_lt_of_le h' with h2 | h2
        · exact h2.symm
        · rw [List.getElem?_eq_none (by simp [hl]; omega)] at hx; cases hx
      subst hin
      rw [List.getElem?_append_right (by omega), hl, Nat.sub_self] at hx
      obtain rfl : e = x := by simpa using hx
      exact he
section
variable {H : Type} {enc : TypeId × Value → H} {W : World}
theorem cells_u8s : Tryz.prog.cellsOf 101 = 1 := by kernel_rfl
theorem cells_i64s : Tryz.prog.cellsOf 62 = 1 := by kernel_rfl
theorem cells_intk : Tryz.prog.cellsOf 3 = 1 := by kernel_rfl
theorem cells_i64k : Tryz.prog.cellsOf 2 = 1 := by kernel_rfl
theorem cells_blk : Tryz.prog.cellsOf 103 = 4 := by kernel_rfl
theorem cells_blks : Tryz.prog.cellsOf 24 = 1 := by kernel_rfl
theorem cells_keep : Tryz.prog.cellsOf 23 = 4 := by kernel_rfl
theorem cells_store : Tryz.prog.cellsOf 26 = 6 := by kernel_rfl
set_option maxRecDepth 100000 in
theorem open_block4c {fuel : Nat} {c0 c1 c2 c3 : Value} {x : DataW H × List MemPlace} (h : DataW.trod enc Tryz.prog W 0 (fun _ => true) true fuel 103 [c0, c1, c2, c3] = some x)
    (hlt : ∀ p ∈ x.2, p.block < W.heap.size) (hz : ∀ n ∈ x.1.weights Tryz.prog 103, n ≤ reachBytes) :
    ∃ k s cs wd, c0 = .int .i64 k ∧ c1 = .int .i64 s ∧ IsY W c2 cs ∧ IsI W c3 wd ∧ BkIn (k, s, cs, wd) := by
  obtain ⟨xs, n, rfl, rfl, _, hl, h1⟩ := DataW.trod_struct Tryz.underlying103 h
  match xs, hl with
  | [y0, y1, y2, y3], _ =>
    have a0 : DataW.trod enc Tryz.prog W 0 (fun _ => true) true n 3 [c0] = some y0 := by
      have this : DataW.trod enc Tryz.prog W 0 (fun _ => true) true n 3 (([c0, c1, c2, c3].drop 0).take (Tryz.prog.cellsOf 3)) = some y0 := h1 0 _ rfl
      rw [cells_intk] at this
      exact this
    have a1 : DataW.trod enc Tryz.prog W 0 (fun _ => true) true n 2 [c1] = some y1 := by
      have this : DataW.trod enc Tryz.prog W 0 (fun _ => true) true n 2 (([c0, c1, c2, c3].drop 1).take (Tryz.prog.cellsOf 2)) = some y1 := h1 1 _ rfl
      rw [cells_i64k] at this
      exact this
    have a2 : DataW.trod enc Tryz.prog W 0 (fun _ => true) true n 101 [c2] = some y2 := by
      have this : DataW.trod enc Tryz.prog W 0 (fun _ => true) true n 101 (([c0, c1, c2, c3].drop 2).take (Tryz.prog.cellsOf 101)) = some y2 := h1 2 _ rfl
      rw [cells_u8s] at this
      exact this
    have a3 : DataW.trod enc Tryz.prog W 0 (fun _ => true) true n 62 [c3] = some y3 := by
      have this : DataW.trod enc Tryz.prog W 0 (fun _ => true) true n 62 (([c0, c1, c2, c3].drop 3).take (Tryz.prog.cellsOf 62)) = some y3 := h1 3 _ rfl
      rw [cells_i64s] at this
      exact this
    have hz' : ∀ n ∈ DataW.weightsEach Tryz.prog [3, 2, 101, 62] [y0.1, y1.1, y2.1, y3.1], n ≤ reachBytes := by
      have e := Tryz.underlying103
      simp only [DataW.weights, e] at hz
      exact hz
    obtain ⟨k, e0, _, w0⟩ := DataW.trod_int Tryz.underlying3 a0
    obtain ⟨s, e1, _, w1⟩ := DataW.trod_int Tryz.underlying2 a1
    simp at e0 e1
    subst e0 e1
    obtain ⟨cs, iC, lC⟩ := open_u8k Tryz.underlying101 a2 (fun p hp => hlt p (by simp [hp])) (weights_at11 hz' (j := 2) rfl rfl)
    obtain ⟨wd, iD, aD, lD⟩ := open_i64k Tryz.underlying62 a3 (fun p hp => hlt p (by simp [hp])) (weights_at11 hz' (j := 3) rfl rfl)
    exact ⟨k, s, cs, wd, rfl, rfl, iC, iD, wf_I64 w0, wf_I64 w1, aD, lC, lD⟩
theorem weightsAll_mem {P : Program} {t : TypeId} {d : DataW H} : ∀ {ds : List (DataW H)}, d ∈ ds → ∀ n ∈ d.weights P t, n ∈ DataW.weightsAll P t ds
  | [], h, _, _ => (nomatch h)
  | x :: r, h, n, hn => by
    simp only [DataW.weightsAll, List.mem_append]
    rcases List.mem_cons.1 h with rfl | h
    · exact .inl hn
    · exact .inr (weightsAll_mem h n hn)
set_option maxRecDepth 100000 in
theorem open_blks {fuel : Nat} {v : Value} {x : DataW H × List MemPlace} (h : DataW.trod enc Tryz.prog W 0 (fun _ => true) true fuel 24 [v] = some x) (hlt : ∀ p ∈ x.2, p.block < W.heap.size)
    (hz : ∀ n ∈ x.1.weights Tryz.prog 24, n ≤ reachBytes) : ∃ bs, IsBs W v bs ∧ ∀ b ∈ bs, BkIn b := by
  rcases open_slice Tryz.underlying24 h with ⟨hcs, hx⟩ | ⟨a, len, cap, m, n, D, Pl, hcs, _, hl, hm, hmm, hx, hi⟩
  · simp at hcs
    subst hcs
    exact ⟨[], IsBs.nil W, by simp⟩
  · simp at hcs
    subst hcs
    subst hx
    simp only [if_true] at hmm
    subst hmm
    unfold maxLen at hm
    rw [cells_blk] at hi hlt
    have hel : ∀ i, i < len → ∃ e : Eb, (∀ j, j < 4 → W.cell? (a.add (i * 4 + j)) = (cellsE e)[j]?) ∧ IsY W e.2.1 e.1.2.2.1 ∧ IsI W e.2.2 e.1.2.2.2 ∧ BkIn e.1 := by
      intro i him
      obtain ⟨cs', hc, ht'⟩ := hi i (by omega)
      obtain ⟨_, hcl, hat⟩ := World.cells?_some hc
      match cs', hcl with
      | [c0, c1, c2, c3], _ =>
        obtain ⟨k, s, cs, wd, rfl, rfl, q1, q2, q3⟩ := open_block4c ht' (fun p hp => hlt p (by
          simp only [List.mem_append, List.mem_flatMap, List.mem_range]
          exact .inr ⟨i, by omega, hp⟩)) (fun q hq => hz q (by
            have e := Tryz.underlying24
            simp only [DataW.weights, e, List.mem_cons, List.mem_append]
            have hd : D i ∈ (List.range len).map D := List.mem_map.2 ⟨i, List.mem_range.2 him, rfl⟩
            have := weightsAll_mem hd q hq
            first | exact .inr (.inl this) | exact .inl (.inr this) | (simp [this]; done)))
        refine ⟨((k, s, cs, wd), c2, c3), fun j hj => ?_, q1, q2, q3⟩
        have := hat j hj
        rw [add_of_add] at this
        rw [this]; rfl
    obtain ⟨es, hes, hp⟩ := list_of len hel
    refine ⟨es.map (·.1), ⟨es, some a, m, rfl, by rw [hes], by omega, by omega, fun e he => ?_, by rw [flatB_len], fun h0 => ⟨a, rfl, ?_, fun j u hu => ?_⟩⟩, fun b hb => ?_⟩
    · obtain ⟨i, hi'⟩ := List.getElem?_of_mem he
      exact ⟨(hp _ _ hi').2.1, (hp _ _ hi').2.2.1⟩
    · obtain ⟨b, off, spot⟩ := a
      have hx := hp 0 es[0] (List.getElem?_eq_getElem (by omega))
      have hspot : spot = none := by simpa [Addr.add] using World.cell?_spot (hx.1 0 (by omega))
      subst hspot
      exact hlt (.cell b off) (List.mem_append_left _ (MemPlace.mem_row.2 ⟨0, by omega, by simp⟩))
    · have hj : j < es.length * 4 := by
        rcases Nat.lt_or_ge j (es.length * 4) with h' | h'
        · exact h'
        · rw [List.getElem?_eq_none (by rw [flatB_len]; exact h')] at hu; cases hu
      have hq : j / 4 < es.length := by omega
      have hx := (hp (j / 4) es[j / 4] (List.getElem?_eq_getElem hq)).1 (j % 4) (Nat.mod_lt _ (by omega))
      have hf := flatB_at es (j / 4) (j % 4) _ (List.getElem?_eq_getElem hq) (Nat.mod_lt _ (by omega))
      have ej : j / 4 * 4 + j % 4 = j := by omega
      rw [ej] at hx hf
      rw [hx, ← hf, hu]
    · obtain ⟨e, he, rfl⟩ := List.mem_map.1 hb
      obtain ⟨i, hi'⟩ := List.getElem?_of_mem he
      exact (hp _ _ hi').2.2.2
end
section
variable {H : Type} {enc : TypeId × Value → H} {W : World}
set_option maxRecDepth 100000 in
theorem open_store {base : Nat} {v : Value} {d : DataW H} {p : List MemPlace} (hv : Value.okWide Tryz.prog W .any base 26 v) (h : DataW.Trod enc Tryz.prog W 0 (fun _ => true) true 26 v d p)
    (hlt : ∀ x ∈ p, x.block < W.heap.size) (hz : ∀ n ∈ d.weights Tryz.prog 26, n ≤ reachBytes) :
    ∃ s : St, IsSt W v s ∧ (I64 s.1 ∧ I64 s.2.1 ∧ I64 s.2.2.1 ∧ I64 s.2.2.2.1 ∧ I64 s.2.2.2.2.1) ∧ ∀ b ∈ s.2.2.2.2.2, BkIn b := by
  obtain ⟨cs, rfl, hsz⟩ := okWide_struct Tryz.underlying26 hv
  obtain ⟨l⟩ := cs
  match l, hsz.trans cells_store with
  | [c0, c1, c2, c3, c4, c5], _ =>
    obtain ⟨fuel, hf⟩ := h
    obtain ⟨xs, n, _, hx, _, hlen, hg⟩ := DataW.trod_struct Tryz.underlying26 hf
    match xs, hlen with
    | [y0, y1, y2], _ =>
      obtain ⟨rfl, rfl⟩ := Prod.mk.inj hx
      have a0 : DataW.trod enc Tryz.prog W 0 (fun _ => true) true n 23 (([c0, c1, c2, c3, c4, c5].drop 0).take (Tryz.prog.cellsOf 23)) = some y0 := hg 0 _ rfl
      have a1 : DataW.trod enc Tryz.prog W 0 (fun _ => true) true n 3 (([c0, c1, c2, c3, c4, c5].drop 4).take (Tryz.prog.cellsOf 3)) = some y1 := hg 1 _ rfl
      have a2 : DataW.trod enc Tryz.prog W 0 (fun _ => true) true n 24 (([c0, c1, c2, c3, c4, c5].drop 5).take (Tryz.prog.cellsOf 24)) = some y2 := hg 2 _ rfl
      rw [cells_keep] at a0
      rw [cells_intk] at a1
      rw [cells_blks] at a2
      have hz' : ∀ n ∈ DataW.weightsEach Tryz.prog [23, 3, 24] [y0.1, y1.1, y2.1], n ≤ reachBytes := by
        have e := Tryz.underlying26
        simp only [DataW.weights, e] at hz
        exact hz
      obtain ⟨zs, n2, _, hx2, _, hlen2, hg2⟩ := DataW.trod_struct Tryz.underlying23 a0
      match zs, hlen2 with
      | [z0, z1, z2, z3], _ =>
        have b0 : DataW.trod enc Tryz.prog W 0 (fun _ => true) true n2 3 (([c0, c1, c2, c3].drop 0).take (Tryz.prog.cellsOf 3)) = some z0 := hg2 0 _ rfl
        have b1 : DataW.trod enc Tryz.prog W 0 (fun _ => true) true n2 3 (([c0, c1, c2, c3].drop 1).take (Tryz.prog.cellsOf 3)) = some z1 := hg2 1 _ rfl
        have b2 : DataW.trod enc Tryz.prog W 0 (fun _ => true) true n2 3 (([c0, c1, c2, c3].drop 2).take (Tryz.prog.cellsOf 3)) = some z2 := hg2 2 _ rfl
        have b3 : DataW.trod enc Tryz.prog W 0 (fun _ => true) true n2 2 (([c0, c1, c2, c3].drop 3).take (Tryz.prog.cellsOf 2)) = some z3 := hg2 3 _ rfl
        rw [cells_intk] at b0 b1 b2
        rw [cells_i64k] at b3
        obtain ⟨k, e0, _, w0⟩ := DataW.trod_int Tryz.underlying3 b0
        obtain ⟨z, e1, _, w1⟩ := DataW.trod_int Tryz.underlying3 b1
        obtain ⟨m, e2, _, w2⟩ := DataW.trod_int Tryz.underlying3 b2
        obtain ⟨o, e3, _, w3⟩ := DataW.trod_int Tryz.underlying2 b3
        obtain ⟨q, e4, _, w4⟩ := DataW.trod_int Tryz.underlying3 a1
        simp at e0 e1 e2 e3 e4
        subst e0 e1 e2 e3 e4
        obtain ⟨bs, hb, hin⟩ := open_blks (show DataW.trod enc Tryz.prog W 0 (fun _ => true) true n 24 [c5] = some y2 from a2) (fun p hp => hlt p (by simp [hp])) (weights_at11 hz' (j := 2) rfl rfl)
        exact ⟨(k, z, m, o, q, bs), ⟨c5, rfl, hb⟩, ⟨wf_I64 w0, wf_I64 w1, wf_I64 w2, wf_I64 w3, wf_I64 w4⟩, hin⟩
end
end Go.Proofs.YtdnjdglekifhpaaGreat
namespace Go.Proofs.YtdnjdglekifhpaaGreat
open Go.RowKit
attribute [local go_sem ↓] Go.wp_at_zero Go.wp_at_succ
set_option maxHeartbeats 1000000 in
theorem rblen_any (v : Value) (k s : Int) (cs : List Nat) (wd : List Int) (w : World) (h : IsBk w v k s cs wd) (h1 : cs.length ≤ 281474976710656) (h2 : wd.length ≤ 17592186044416) :
    Calls Tryz.prog 48 #[v] w fun e w' => e = .returned (.int .i64 ((cs.length : Int) + wd.length)) ∧ Below w.heap.size w w' := by
  obtain ⟨a, b, rfl, ha, hb⟩ := h
  obtain ⟨Aa, Ca, rfl, _, _⟩ := ha.form
  obtain ⟨Ab, Cb, rfl, _, _⟩ := hb.form
  have HB := Lib.hid ((Below.refl w.heap.size w).alloc (Nat.le_refl _) (.cells #[.int .i64 k, .int .i64 s, .slice Aa cs.length Ca, .slice Ab wd.length Cb] 103))
  generalize cs.length = n at *
  generalize wd.length = m' at *
  have k1 : (n : Int) ≤ 281474976710656 := by omega
  have k2 : (m' : Int) ≤ 17592186044416 := by omega
  go_enter Tryz.func48, Tryz.ntmps48
  go_wp2
  go_ret
  exact ⟨rfl, HB.out⟩
set_option maxHeartbeats 2000000 in
theorem rgreat_any (v : Value) (l : List Int) (w : World) (h : IsI w v l) (hm : ∀ x ∈ l, I64 x ∧ x ≠ -9223372036854775808) :
    Calls Tryz.prog 53 #[v] w fun e w' => e = .returned (.int .i64 (great l)) ∧ ∃ n, w' = w.drewN n := by
  obtain ⟨A, c, rfl, hc1, hc2, hr⟩ := h
  have HW : Hid (∀ j, j < l.length → IntKind.i64.wrap (-(iat l j)) = -(iat l j)) := Lib.hid (fun j hj => by
    obtain ⟨h1, h2⟩ := hm _ (iat_mem hj)
    unfold I64 at h1
    rw [IntKind.wrap_i64]; omega)
  have hM3 := @run_max3_int Tryz.prog
  clear hm
  go_enter Tryz.func53, Tryz.ntmps53
  go_wp2
  go_loopw [4, 3] (fun i n wr => ∃ k m : Nat, k ≤ l.length ∧ i = .int .i64 k ∧ n = .int .i64 (great (l.take k)) ∧ wr = w.drewN m) (fun i _ _ => l.length - (intOf i).toNat)
  case atStart => exact ⟨0, 0, by omega, rfl, rfl, rfl⟩
  case round =>
    obtain ⟨k, m, hk, rfl, rfl, rfl⟩ := hrel
    by_cases hlt : k < l.length
    · obtain ⟨ad, rfl, _, hx⟩ := is_cell hr hlt
      have HS := Lib.hid (great_take l k hlt)
      have hw := HW.out k hlt
      have i0 : (0 : Int) ≤ (k : Int) := by omega
      have i1 : (k : Int) < (l.length : Int) := by omega
      generalize iat l k = x at *
      generalize great (l.take k) = s0 at *
      go_wp2
      go_quiet (fail)
      all_goals go_wp2
      exact ⟨⟨k + 1, _, by omega, by go_num, by rw [HS.out]; congr 1; omega, rfl⟩, by simp [intOf]; omega⟩
    · obtain rfl : k = l.length := by omega
      rw [List.take_length]
      go_wp2
      go_ret
      exact ⟨rfl, _, rfl⟩
end Go.Proofs.YtdnjdglekifhpaaGreat
