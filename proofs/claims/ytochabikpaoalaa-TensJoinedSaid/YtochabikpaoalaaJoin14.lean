/- Two rows, the first one of whole blocks, kept one behind the other, are the blocks of both, if none of the three is short. No conditions: every input. Printed by gen_tjoin14.py. -/
import Derived.Test.YtochabikpaoalaaCost14
import Derived.Test.YtochabikpaoalaaRef14s
import Derived.Deep.RegionHeld3
import Derived.Deep.DrawnRows
namespace Go.Proofs.Ytochabikpaoalaa
open Go.RowKit
attribute [local go_sem ↓] Go.wp_at_zero Go.wp_at_succ
theorem litJ (w : World) : ∃ W, W = w.alloc (.cells #[] 2) ∧ W.ownsRow w.heap.size 2 1 (.slice (some ⟨w.heap.size, 0, none⟩) 0 0) 0 (is []) ∧ Below w.heap.size w W :=
  ⟨_, rfl, World.ownsRow_lit w #[] 0 (base := w.heap.size) (e := 2) (size := 1) (Nat.le_refl _) (by unfold maxLen; omega) rfl, (Below.refl _ w).alloc (Nat.le_refl _) _⟩
theorem litK (w : World) : ∃ W, W = w.alloc (.cells #[] 34) ∧ W.ownsRow w.heap.size 34 4 (.slice (some ⟨w.heap.size, 0, none⟩) 0 0) 0 [] ∧ Below w.heap.size w W :=
  ⟨_, rfl, World.ownsRow_lit w #[] 0 (base := w.heap.size) (e := 34) (size := 4) (Nat.le_refl _) (by unfold maxLen; omega) rfl, (Below.refl _ w).alloc (Nat.le_refl _) _⟩
/-- the value reads as just these blocks, in these slices -/
def EsAt (w : World) (v : Value) (es : List Eb) : Prop := ∃ (A : Option Addr) (c : Nat), v = .slice A es.length c ∧ es.length ≤ c ∧ c ≤ 9223372036854775807 ∧ OkB w es ∧ Reads w w.heap.size 4 A es.length (flatB es)
theorem EsAt.below {w w' : World} {v : Value} {es : List Eb} (h : EsAt w v es) (hb : Below w.heap.size w w') : EsAt w' v es := by
  obtain ⟨A, c, e, h1, h2, h3, h4⟩ := h
  exact ⟨A, c, e, h1, h2, h3.below hb, (h4.below hb).more hb.size⟩
theorem EsAt.is {w : World} {v : Value} {es : List Eb} (h : EsAt w v es) : IsBs w v (es.map (·.1)) := by
  obtain ⟨A, c, e, h1, h2, h3, h4⟩ := h
  exact ⟨es, A, c, rfl, e, h1, h2, h3, h4⟩
theorem EsAt.ok {w : World} {v : Value} {es : List Eb} (h : EsAt w v es) : OkB w es := by
  obtain ⟨_, _, _, _, _, h3, _⟩ := h
  exact h3
theorem OwnBs.at_es {w : World} {base fl : Nat} {v : Value} {bs : List Bk} (h : OwnBs w base fl v bs) : ∃ es : List Eb, es.map (·.1) = bs ∧ EsAt w v es ∧ (∀ e ∈ es, Fresh fl e.2.1 ∧ Fresh fl e.2.2) := by
  obtain ⟨es, h1, h2, h3, h4⟩ := h
  obtain ⟨A, c, e, k1, k2, k3⟩ := own4_form h4
  exact ⟨es, h1, ⟨A, c, e, k1, k2, h2, k3⟩, fun e he => (h3 e he).2⟩
/-- no slice of a block lies in a block of memory -/
def OffB (X : Nat) (e : Eb) : Prop := (e.1.2.2.1 = [] ∨ e.2.1.ownBlock ≠ some X) ∧ (e.1.2.2.2 = [] ∨ e.2.2.ownBlock ≠ some X)
theorem OkB.off {w : World} {es : List Eb} (h : OkB w es) : ∀ e ∈ es, OffB w.heap.size e := fun e he => ⟨(h e he).1.lower, (h e he).2.lower⟩
theorem off_fresh {fl X : Nat} {e : Eb} (h : Fresh fl e.2.1 ∧ Fresh fl e.2.2) (hX : X < fl) : OffB X e := ⟨.inr (h.1.ne hX), .inr (h.2.ne hX)⟩
theorem IsI.setOff {w : World} {v : Value} {l : List Int} (h : IsI w v l) {X i : Nat} (hX : l = [] ∨ v.ownBlock ≠ some X) (u : Value) : IsI (w.setCell ⟨X, i, none⟩ u) v l := by
  rcases hX with rfl | hX
  · obtain ⟨A, c, e, h1, h2, h3⟩ := h
    exact ⟨A, c, e, h1, h2, h3.1, fun hn => absurd hn (by simp)⟩
  · exact h.farB (p := ⟨X, i, none⟩) hX u
theorem IsY.setOff {w : World} {v : Value} {l : List Nat} (h : IsY w v l) {X i : Nat} (hX : l = [] ∨ v.ownBlock ≠ some X) (u : Value) : IsY (w.setCell ⟨X, i, none⟩ u) v l := by
  rcases hX with rfl | hX
  · obtain ⟨A, c, e, h1, h2, h3, h4⟩ := h
    exact ⟨A, c, e, h1, h2, h3, h4.1, fun hn => absurd hn (by simp)⟩
  · exact h.farB (p := ⟨X, i, none⟩) hX u
/-- a row of one's own whose inner slices are off a block of memory -/
def OwnOff (w : World) (base X : Nat) (v : Value) (es : List Eb) : Prop := OkB w es ∧ (∀ e ∈ es, AwayE v e ∧ OffB X e) ∧ w.ownsRow base 34 4 v es.length (flatB es)
theorem OwnOff.push {w w' : World} {base X : Nat} {v v' : Value} {es ns : List Eb} {n : Nat} (h : OwnOff w base X v es) (hnk : OkB w ns) (hna : ∀ e ∈ ns, AwayE v e ∧ OffB X e) (hn : n = es.length + ns.length)
    (hown : w'.ownsRow base 34 4 v' n (flatB es ++ flatB ns)) (hg : w.grownBy w' v.ownBlock) (hat : v'.ownBlock = v.ownBlock ∨ v'.ownBlock = some w.heap.size) : OwnOff w' base X v' (es ++ ns) := by
  obtain ⟨hok, haw, _⟩ := h
  have hall : ∀ e ∈ es ++ ns, (IsY w e.2.1 e.1.2.2.1 ∧ IsI w e.2.2 e.1.2.2.2) ∧ AwayE v e ∧ OffB X e := fun e he => (List.mem_append.1 he).elim (fun h => ⟨hok e h, haw e h⟩) (fun h => ⟨hnk e h, hna e h⟩)
  refine ⟨fun e he => ?_, fun e he => ⟨fun g hgv => ?_, (hall e he).2.2⟩, by rw [flatB_append, List.length_append, ← hn]; exact hown⟩
  · obtain ⟨⟨h1, h2⟩, h3, _⟩ := hall e he
    exact ⟨h1.grownF hg fun g e => (h3 g e).1, h2.grownF hg fun g e => (h3 g e).2⟩
  · obtain ⟨⟨h1, h2⟩, h3, _⟩ := hall e he
    rcases hat with h | h
    · exact h3 g (h ▸ hgv)
    · rw [h] at hgv
      obtain rfl := Option.some.inj hgv
      exact ⟨h1.lower, h2.lower⟩
theorem OwnOff.set {w : World} {base X i : Nat} {v : Value} {es : List Eb} (h : OwnOff w base X v es) (h1 : X < base) (u : Value) : OwnOff (w.setCell ⟨X, i, none⟩ u) base X v es := by
  obtain ⟨e2, e3, e4⟩ := h
  refine ⟨fun e he => ⟨(e2 e he).1.setOff (e3 e he).2.1 u, (e2 e he).2.setOff (e3 e he).2.2 u⟩, e3, ?_⟩
  refine e4.kept (row := some X) ⟨rfl, rfl, rfl, by simp [World.setCell], fun k _ hne => Below.heap_setCell w ⟨X, i, none⟩ u k (fun e => hne (by rw [e]))⟩ (.inr fun e => ?_)
  have := (e4.lt X e).1; omega
theorem OwnOff.is {w : World} {base X : Nat} {v : Value} {es : List Eb} (h : OwnOff w base X v es) : IsBs w v (es.map (·.1)) := by
  obtain ⟨e2, e3, e4⟩ := h
  obtain ⟨A, c, e, k1, k2, k3⟩ := own4_form e4
  exact ⟨es, A, c, rfl, e, k1, k2, e2, k3⟩
theorem IsI.lowerN {w : World} {v : Value} {l : List Int} (h : IsI w v l) {g : Nat} (hg : w.heap.size ≤ g) : l = [] ∨ v.ownBlock ≠ some g := by
  obtain ⟨A, c, rfl, h1, h2, h4⟩ := h
  rcases List.eq_nil_or_concat l with rfl | ⟨_, _, rfl⟩
  · exact .inl rfl
  · obtain ⟨ad, rfl, hb, _⟩ := h4.2 (by simp)
    exact .inr fun e => by
      have : ad.block = g := by simpa [Value.ownBlock] using e
      omega
theorem IsY.lowerN {w : World} {v : Value} {l : List Nat} (h : IsY w v l) {g : Nat} (hg : w.heap.size ≤ g) : l = [] ∨ v.ownBlock ≠ some g := by
  obtain ⟨A, c, rfl, h1, h2, h3, h4⟩ := h
  rcases List.eq_nil_or_concat l with rfl | ⟨_, _, rfl⟩
  · exact .inl rfl
  · obtain ⟨ad, rfl, hb, _⟩ := h4.2 (by simp)
    exact .inr fun e => by
      have : ad.block = g := by simpa [Value.ownBlock] using e
      omega
theorem away_high {w : World} {es : List Eb} (h : OkB w es) {v : Value} {b : Nat} (hb : w.heap.size ≤ b) (hv : ∀ g, v.ownBlock = some g → b ≤ g) : ∀ e ∈ es, AwayE v e := fun e he g hg =>
  ⟨(h e he).1.lowerN (Nat.le_trans hb (hv g hg)), (h e he).2.lowerN (Nat.le_trans hb (hv g hg))⟩
theorem away_new {w : World} {es : List Eb} (h : OkB w es) (c : Nat) : ∀ e ∈ es, AwayE (.slice (some ⟨w.heap.size, 0, none⟩) 0 c) e := fun e he g hg => by
  obtain rfl : w.heap.size = g := by simpa [Value.ownBlock] using hg
  exact ⟨(h e he).1.lower, (h e he).2.lower⟩
theorem boxSt (w : World) (t : TypeId) (a b c d e f : Value) {R B0 : Nat} {w0 : World} {x0 x1 x2 x3 x4 x5 : Value} (hz : Blk w R t #[x0, x1, x2, x3, x4, x5]) (hB : Below B0 w0 w) (hR : B0 ≤ R) :
    ∃ W, W = ((((((w.setCell ⟨R, 0, none⟩ a).setCell ⟨R, 1, none⟩ b).setCell ⟨R, 2, none⟩ c).setCell ⟨R, 3, none⟩ d).setCell ⟨R, 4, none⟩ e).setCell ⟨R, 5, none⟩ f) ∧ Blk W R t #[a, b, c, d, e, f] ∧ Below B0 w0 W ∧
      (∀ b_ fl_ v_ bs_, OwnBs w b_ fl_ v_ bs_ → R < b_ → R < fl_ → OwnBs W b_ fl_ v_ bs_) ∧ (∀ B1 w1, Below B1 w1 w → B1 ≤ R → Below B1 w1 W) := by
  refine ⟨_, rfl, ?_, bset (bset (bset (bset (bset (bset hB hR _) hR _) hR _) hR _) hR _) hR _, fun b_ fl_ v_ bs_ h h1 h2 => (((((h.set h1 h2 _).set h1 h2 _).set h1 h2 _).set h1 h2 _).set h1 h2 _).set h1 h2 _,
    fun B1 w1 hB hR => bset (bset (bset (bset (bset (bset hB hR _) hR _) hR _) hR _) hR _) hR _⟩
  have := (((((hz.set_ 0 a).set_ 1 b).set_ 2 c).set_ 3 d).set_ 4 e).set_ 5 f
  simpa using this
theorem ofS_len (k m o : Int) (Z : Nat) (l : List Int) : (ofS k Z m o l).2.2.2.2.2.length ≤ l.length := by
  unfold ofS
  split
  · rename_i h
    obtain ⟨h1, _, _⟩ := ofE_zero h
    simp only
    rw [bksTo_len, Int.toNat_natCast]
    exact partN_le (by have := mayB_iff.1 h1; omega)
  · simp
theorem len63 {n : Nat} (h : n ≤ 48) : n ≤ maxLen := by unfold maxLen; omega
theorem len47 {n : Nat} (h : n ≤ 48) : n * 8 ≤ 140737488355328 := by omega
theorem es_le {es : List Eb} {B : List Bk} {n : Nat} (hm : es.map (·.1) = B) (h : B.length ≤ n) (h2 : n ≤ 24) : es.length ≤ 24 := by
  have := congrArg List.length hm
  rw [List.length_map] at this
  omega
theorem joined_facts (k m o : Int) (Z : Nat) (a b : List Int) (hm : mayB k Z m o = true) (hmod : a.length % Z = 0) (hsa : ¬ (a.length : Int) < m) (hsb : ¬ (b.length : Int) < m) (hn : a.length + b.length ≤ 24) :
    (ofE k Z m o a = 0 ∧ ofE k Z m o b = 0 ∧ ofE k Z m o (a ++ b) = 0 ∧ ofS k Z m o a = (k, (Z : Int), m, o, (a.length : Int), (ofS k Z m o a).2.2.2.2.2) ∧ ofS k Z m o b = (k, (Z : Int), m, o, (b.length : Int), (ofS k Z m o b).2.2.2.2.2) ∧
      ofS k Z m o (a ++ b) = (k, (Z : Int), m, o, (a.length : Int) + (b.length : Int), (ofS k Z m o a).2.2.2.2.2 ++ (ofS k Z m o b).2.2.2.2.2)) ∨
    (ofE k Z m o a = 0 ∧ ofE k Z m o b = 1 ∧ ofE k Z m o (a ++ b) = 1) ∨ (ofE k Z m o a = 1 ∧ ofE k Z m o b = 0 ∧ ofE k Z m o (a ++ b) = 1) ∨ (ofE k Z m o a = 1 ∧ ofE k Z m o b = 1 ∧ ofE k Z m o (a ++ b) = 1) := by
  obtain ⟨j1, j2⟩ := joined_of (k := k) (z := (Z : Int)) (m := m) (o := o) (a := a) (b := b) hm (by rw [Int.toNat_natCast]; exact hmod) hsa hsb (by omega)
  have c3 := ofE_cases (k := k) (z := (Z : Int)) (m := m) (o := o) (l := a ++ b) (by rw [List.length_append]; omega)
  rcases ofE_cases (k := k) (z := (Z : Int)) (m := m) (o := o) (l := a) (by omega) with e1 | e1
  · rcases ofE_cases (k := k) (z := (Z : Int)) (m := m) (o := o) (l := b) (by omega) with e2 | e2
    · obtain ⟨e3, e4⟩ := j1 e1 e2
      refine .inl ⟨e1, e2, e3, ?_, ?_, ?_⟩
      · unfold ofS; rw [if_pos e1]
      · unfold ofS; rw [if_pos e2]
      · unfold ofS; rw [if_pos e1, if_pos e2, if_pos e3]
        simp only
        rw [e4, List.length_append]; push_cast; rfl
    · exact .inr (.inl ⟨e1, e2, c3.resolve_left (j2 (.inr (by rw [e2]; decide)))⟩)
  · rcases ofE_cases (k := k) (z := (Z : Int)) (m := m) (o := o) (l := b) (by omega) with e2 | e2
    · exact .inr (.inr (.inl ⟨e1, e2, c3.resolve_left (j2 (.inl (by rw [e1]; decide)))⟩))
    · exact .inr (.inr (.inr ⟨e1, e2, c3.resolve_left (j2 (.inl (by rw [e1]; decide)))⟩))
set_option maxRecDepth 100000 in
set_option maxHeartbeats 4000000 in
theorem TensJoined_many (k z m o : Int) (u v : Value) (a b : List Int) (w : World) (ha : IsI w u a) (hb : IsI w v b) (hia : ∀ x ∈ a, I64 x) (hib : ∀ x ∈ b, I64 x) (hla : a.length ≤ 17592186044416) (hlb : b.length ≤ 17592186044416) (hn : ¬ a.length + b.length ≤ 24) :
    Calls Try.prog 5 #[.agg #[.int .i64 k, .int .i64 z, .int .i64 m, .int .i64 o], u, v] w fun e w' => e = .returned (.bool true) ∧ Below w.heap.size w w' := by
  obtain ⟨A, C, rfl, hc1, hc2⟩ := id ha.form
  obtain ⟨A', C', rfl, hc3, hc4⟩ := id hb.form
  have hL := fun w => alive14_any w
  have d1 : decide ((24 : Int) < (a.length : Int) + (b.length : Int)) = true := decide_eq_true (by omega)
  have e1 : decide (24 < a.length + b.length) = true := decide_eq_true (by omega)
  obtain ⟨W0, hW, hR, hB⟩ := box1 w 23 #[.int .i64 k, .int .i64 z, .int .i64 m, .int .i64 o]
  obtain ⟨g, hg⟩ : ∃ g, g = w.heap.size := ⟨_, rfl⟩
  have hW' := Lib.hid (And.intro hW hg)
  rw [← hg] at hR
  have hgw : w.heap.size ≤ g := by omega
  clear hW hg
  have hKp := hR
  replace ha := ha.below hB
  replace hb := hb.below hB
  obtain ⟨c1_hKp_0, c1_hKp_1, c1_hKp_2, c1_hKp_3⟩ := hKp.quad
  go_enter Try.func5, Try.ntmps5
  go_wp2_with fail
  rw [← hW'.out.1, ← hW'.out.2]
  refine (hL _).mono ?_
  rintro e w1 ⟨rfl, b1⟩
  replace ha := ha.below b1
  replace hb := hb.below b1
  replace hKp := hKp.below b1 hKp.lt
  replace hB := hB.trans (b1.mono hB.size)
  clear c1_hKp_0 c1_hKp_1 c1_hKp_2 c1_hKp_3
  obtain ⟨c2_hKp_0, c2_hKp_1, c2_hKp_2, c2_hKp_3⟩ := hKp.quad
  go_wp2
  go_ret
  exact ⟨rfl, hB⟩
set_option maxRecDepth 100000 in
set_option maxHeartbeats 4000000 in
theorem TensJoined_may (k z m o : Int) (u v : Value) (a b : List Int) (w : World) (ha : IsI w u a) (hb : IsI w v b) (hia : ∀ x ∈ a, I64 x) (hib : ∀ x ∈ b, I64 x) (hla : a.length ≤ 17592186044416) (hlb : b.length ≤ 17592186044416) (hn : a.length + b.length ≤ 24) (hm : mayB k z m o = false) :
    Calls Try.prog 5 #[.agg #[.int .i64 k, .int .i64 z, .int .i64 m, .int .i64 o], u, v] w fun e w' => e = .returned (.bool true) ∧ Below w.heap.size w w' := by
  obtain ⟨A, C, rfl, hc1, hc2⟩ := id ha.form
  obtain ⟨A', C', rfl, hc3, hc4⟩ := id hb.form
  have hL := fun w => alive14_any w
  have d2 : decide ((24 : Int) < (a.length : Int) + (b.length : Int)) = false := decide_eq_false (by omega)
  have e2 : decide (24 < a.length + b.length) = false := decide_eq_false (by omega)
  have hM := fun w => rmay14_any k z m o w
  rw [hm] at hM
  obtain ⟨W0, hW, hR, hB⟩ := box1 w 23 #[.int .i64 k, .int .i64 z, .int .i64 m, .int .i64 o]
  obtain ⟨g, hg⟩ : ∃ g, g = w.heap.size := ⟨_, rfl⟩
  have hW' := Lib.hid (And.intro hW hg)
  rw [← hg] at hR
  have hgw : w.heap.size ≤ g := by omega
  clear hW hg
  have hKp := hR
  replace ha := ha.below hB
  replace hb := hb.below hB
  obtain ⟨c1_hKp_0, c1_hKp_1, c1_hKp_2, c1_hKp_3⟩ := hKp.quad
  go_enter Try.func5, Try.ntmps5
  go_wp2_with fail
  rw [← hW'.out.1, ← hW'.out.2]
  refine (hM _).mono ?_
  rintro e w1 ⟨rfl, b1⟩
  replace ha := ha.below b1
  replace hb := hb.below b1
  replace hKp := hKp.below b1 hKp.lt
  replace hB := hB.trans (b1.mono hB.size)
  clear c1_hKp_0 c1_hKp_1 c1_hKp_2 c1_hKp_3
  obtain ⟨c2_hKp_0, c2_hKp_1, c2_hKp_2, c2_hKp_3⟩ := hKp.quad
  go_wp2_with fail
  refine (hL _).mono ?_
  rintro e w2 ⟨rfl, b2⟩
  replace ha := ha.below b2
  replace hb := hb.below b2
  replace hKp := hKp.below b2 hKp.lt
  replace hB := hB.trans (b2.mono hB.size)
  clear c2_hKp_0 c2_hKp_1 c2_hKp_2 c2_hKp_3
  obtain ⟨c3_hKp_0, c3_hKp_1, c3_hKp_2, c3_hKp_3⟩ := hKp.quad
  go_wp2
  go_ret
  exact ⟨rfl, hB⟩
set_option maxRecDepth 100000 in
set_option maxHeartbeats 4000000 in
theorem TensJoined_mod (k z m o : Int) (u v : Value) (a b : List Int) (w : World) (ha : IsI w u a) (hb : IsI w v b) (hia : ∀ x ∈ a, I64 x) (hib : ∀ x ∈ b, I64 x) (hla : a.length ≤ 17592186044416) (hlb : b.length ≤ 17592186044416) (hn : a.length + b.length ≤ 24) (hm : mayB k z m o = true) (hmod : ¬ a.length % z.toNat = 0) :
    Calls Try.prog 5 #[.agg #[.int .i64 k, .int .i64 z, .int .i64 m, .int .i64 o], u, v] w fun e w' => e = .returned (.bool true) ∧ Below w.heap.size w w' := by
  obtain ⟨A, C, rfl, hc1, hc2⟩ := id ha.form
  obtain ⟨A', C', rfl, hc3, hc4⟩ := id hb.form
  have hL := fun w => alive14_any w
  have d3 : decide ((24 : Int) < (a.length : Int) + (b.length : Int)) = false := decide_eq_false (by omega)
  have e3 : decide (24 < a.length + b.length) = false := decide_eq_false (by omega)
  have hM := fun w => rmay14_any k z m o w
  rw [hm] at hM
  obtain ⟨Z, rfl, z1, z2⟩ := size_of hm
  have hz3 : (Z : Int) ≠ 0 := by omega
  have hz0 : ((Z : Int) == 0) = false := by rw [beq_eq_false_iff_ne]; omega
  have hz4 : ¬ Z = 0 := by omega
  have hz5 : (0 : Int) < (Z : Int) := by omega
  rw [Int.toNat_natCast] at hmod
  obtain ⟨r, hr⟩ : ∃ r : Nat, r = a.length % Z := ⟨_, rfl⟩
  have hr1 : (a.length : Int) % (Z : Int) = (r : Int) := by rw [hr]; rfl
  have hr2 : (a.length : Int).tmod (Z : Int) = (r : Int) := by rw [Int.tmod_eq_emod_of_nonneg (by omega)]; exact hr1
  have hr3 : r ≤ 4096 := by rw [hr]; have := Nat.mod_lt a.length (show Z > 0 by omega); omega
  have hr4 : IntKind.i64.wrap ((a.length : Int).tmod (Z : Int)) = (r : Int) := by rw [hr2, IntKind.wrap_i64]; omega
  have hr5 : wrap64 ((a.length : Int).tmod (Z : Int)) = (r : Int) := by rw [hr2]; unfold wrap64; omega
  have hr6 : (((r : Nat) : Int) != 0) = true := by rw [bne_iff_ne]; have : r ≠ 0 := fun e => hmod (hr.symm.trans e); omega
  have hr8 : ¬ r = 0 := fun e => hmod (hr.symm.trans e)
  have hr7 : ¬ ((r : Nat) : Int) = 0 := by omega
  have hr9 : (((r : Nat) : Int) == 0) = false := by rw [beq_eq_false_iff_ne]; exact hr7
  have hr10 : decide (((r : Nat) : Int) = 0) = false := decide_eq_false hr7
  have hr11 : ¬ (a.length : Int).tmod (Z : Int) = 0 := by rw [hr2]; exact hr7
  have hr12 : ¬ Z ∣ a.length := fun e => hmod (Nat.mod_eq_zero_of_dvd e)
  have hr13 : ¬ (Z : Int) ∣ (a.length : Int) := fun e => hr12 (Int.ofNat_dvd.1 e)
  have hr14 : ¬ (a.length : Int) % (Z : Int) = 0 := by rw [hr1]; exact hr7
  clear hr hr1 hr2
  obtain ⟨W0, hW, hR, hB⟩ := box1 w 23 #[.int .i64 k, .int .i64 Z, .int .i64 m, .int .i64 o]
  obtain ⟨g, hg⟩ : ∃ g, g = w.heap.size := ⟨_, rfl⟩
  have hW' := Lib.hid (And.intro hW hg)
  rw [← hg] at hR
  have hgw : w.heap.size ≤ g := by omega
  clear hW hg
  have hKp := hR
  replace ha := ha.below hB
  replace hb := hb.below hB
  obtain ⟨c1_hKp_0, c1_hKp_1, c1_hKp_2, c1_hKp_3⟩ := hKp.quad
  go_enter Try.func5, Try.ntmps5
  go_wp2_with fail
  rw [← hW'.out.1, ← hW'.out.2]
  refine (hM _).mono ?_
  rintro e w1 ⟨rfl, b1⟩
  replace ha := ha.below b1
  replace hb := hb.below b1
  replace hKp := hKp.below b1 hKp.lt
  replace hB := hB.trans (b1.mono hB.size)
  clear c1_hKp_0 c1_hKp_1 c1_hKp_2 c1_hKp_3
  obtain ⟨c2_hKp_0, c2_hKp_1, c2_hKp_2, c2_hKp_3⟩ := hKp.quad
  go_wp2_with fail
  refine (hL _).mono ?_
  rintro e w2 ⟨rfl, b2⟩
  replace ha := ha.below b2
  replace hb := hb.below b2
  replace hKp := hKp.below b2 hKp.lt
  replace hB := hB.trans (b2.mono hB.size)
  clear c2_hKp_0 c2_hKp_1 c2_hKp_2 c2_hKp_3
  obtain ⟨c3_hKp_0, c3_hKp_1, c3_hKp_2, c3_hKp_3⟩ := hKp.quad
  go_wp2
  go_ret
  exact ⟨rfl, hB⟩
set_option maxRecDepth 100000 in
set_option maxHeartbeats 4000000 in
theorem TensJoined_la (k z m o : Int) (u v : Value) (a b : List Int) (w : World) (ha : IsI w u a) (hb : IsI w v b) (hia : ∀ x ∈ a, I64 x) (hib : ∀ x ∈ b, I64 x) (hla : a.length ≤ 17592186044416) (hlb : b.length ≤ 17592186044416) (hn : a.length + b.length ≤ 24) (hm : mayB k z m o = true) (hmod : a.length % z.toNat = 0) (hsa : (a.length : Int) < m) :
    Calls Try.prog 5 #[.agg #[.int .i64 k, .int .i64 z, .int .i64 m, .int .i64 o], u, v] w fun e w' => e = .returned (.bool true) ∧ Below w.heap.size w w' := by
  obtain ⟨A, C, rfl, hc1, hc2⟩ := id ha.form
  obtain ⟨A', C', rfl, hc3, hc4⟩ := id hb.form
  have hL := fun w => alive14_any w
  have d4 : decide ((24 : Int) < (a.length : Int) + (b.length : Int)) = false := decide_eq_false (by omega)
  have e4 : decide (24 < a.length + b.length) = false := decide_eq_false (by omega)
  have hM := fun w => rmay14_any k z m o w
  rw [hm] at hM
  obtain ⟨Z, rfl, z1, z2⟩ := size_of hm
  have hz3 : (Z : Int) ≠ 0 := by omega
  have hz0 : ((Z : Int) == 0) = false := by rw [beq_eq_false_iff_ne]; omega
  have hz4 : ¬ Z = 0 := by omega
  have hz5 : (0 : Int) < (Z : Int) := by omega
  rw [Int.toNat_natCast] at hmod
  obtain ⟨r, hr⟩ : ∃ r : Nat, r = a.length % Z := ⟨_, rfl⟩
  have hr1 : (a.length : Int) % (Z : Int) = (r : Int) := by rw [hr]; rfl
  have hr2 : (a.length : Int).tmod (Z : Int) = (r : Int) := by rw [Int.tmod_eq_emod_of_nonneg (by omega)]; exact hr1
  have hr3 : r ≤ 4096 := by rw [hr]; have := Nat.mod_lt a.length (show Z > 0 by omega); omega
  have hr4 : IntKind.i64.wrap ((a.length : Int).tmod (Z : Int)) = (r : Int) := by rw [hr2, IntKind.wrap_i64]; omega
  have hr5 : wrap64 ((a.length : Int).tmod (Z : Int)) = (r : Int) := by rw [hr2]; unfold wrap64; omega
  have hr6 : (((r : Nat) : Int) != 0) = false := by rw [show r = 0 from hr.trans hmod]; rfl
  have hs0 : ((r : Nat) : Int) = 0 := by rw [hr, hmod]; rfl
  have hs1 : (a.length : Int).tmod (Z : Int) = 0 := by rw [hr2]; exact hs0
  have hs2 : IntKind.i64.wrap ((a.length : Int).tmod (Z : Int)) = 0 := by rw [hr4]; exact hs0
  have hs3 : wrap64 ((a.length : Int).tmod (Z : Int)) = 0 := by rw [hr5]; exact hs0
  have hs4 : Z ∣ a.length := Nat.dvd_of_mod_eq_zero hmod
  have hs5 : (Z : Int) ∣ (a.length : Int) := Int.ofNat_dvd.2 hs4
  have hs6 : (a.length : Int) % (Z : Int) = 0 := by rw [hr1]; exact hs0
  clear hr3 hr4 hr5 hr6 hs0
  have d5 : decide ((a.length : Int) < m) = true := decide_eq_true (by omega)
  clear hr hr1 hr2
  obtain ⟨W0, hW, hR, hB⟩ := box1 w 23 #[.int .i64 k, .int .i64 Z, .int .i64 m, .int .i64 o]
  obtain ⟨g, hg⟩ : ∃ g, g = w.heap.size := ⟨_, rfl⟩
  have hW' := Lib.hid (And.intro hW hg)
  rw [← hg] at hR
  have hgw : w.heap.size ≤ g := by omega
  clear hW hg
  have hKp := hR
  replace ha := ha.below hB
  replace hb := hb.below hB
  obtain ⟨c1_hKp_0, c1_hKp_1, c1_hKp_2, c1_hKp_3⟩ := hKp.quad
  go_enter Try.func5, Try.ntmps5
  go_wp2_with fail
  rw [← hW'.out.1, ← hW'.out.2]
  refine (hM _).mono ?_
  rintro e w1 ⟨rfl, b1⟩
  replace ha := ha.below b1
  replace hb := hb.below b1
  replace hKp := hKp.below b1 hKp.lt
  replace hB := hB.trans (b1.mono hB.size)
  clear c1_hKp_0 c1_hKp_1 c1_hKp_2 c1_hKp_3
  obtain ⟨c2_hKp_0, c2_hKp_1, c2_hKp_2, c2_hKp_3⟩ := hKp.quad
  go_wp2_with fail
  refine (hL _).mono ?_
  rintro e w2 ⟨rfl, b2⟩
  replace ha := ha.below b2
  replace hb := hb.below b2
  replace hKp := hKp.below b2 hKp.lt
  replace hB := hB.trans (b2.mono hB.size)
  clear c2_hKp_0 c2_hKp_1 c2_hKp_2 c2_hKp_3
  obtain ⟨c3_hKp_0, c3_hKp_1, c3_hKp_2, c3_hKp_3⟩ := hKp.quad
  go_wp2
  go_ret
  exact ⟨rfl, hB⟩
set_option maxRecDepth 100000 in
set_option maxHeartbeats 4000000 in
theorem TensJoined_lb (k z m o : Int) (u v : Value) (a b : List Int) (w : World) (ha : IsI w u a) (hb : IsI w v b) (hia : ∀ x ∈ a, I64 x) (hib : ∀ x ∈ b, I64 x) (hla : a.length ≤ 17592186044416) (hlb : b.length ≤ 17592186044416) (hn : a.length + b.length ≤ 24) (hm : mayB k z m o = true) (hmod : a.length % z.toNat = 0) (hsa : ¬ (a.length : Int) < m) (hsb : (b.length : Int) < m) :
    Calls Try.prog 5 #[.agg #[.int .i64 k, .int .i64 z, .int .i64 m, .int .i64 o], u, v] w fun e w' => e = .returned (.bool true) ∧ Below w.heap.size w w' := by
  obtain ⟨A, C, rfl, hc1, hc2⟩ := id ha.form
  obtain ⟨A', C', rfl, hc3, hc4⟩ := id hb.form
  have hL := fun w => alive14_any w
  have d6 : decide ((24 : Int) < (a.length : Int) + (b.length : Int)) = false := decide_eq_false (by omega)
  have e6 : decide (24 < a.length + b.length) = false := decide_eq_false (by omega)
  have hM := fun w => rmay14_any k z m o w
  rw [hm] at hM
  obtain ⟨Z, rfl, z1, z2⟩ := size_of hm
  have hz3 : (Z : Int) ≠ 0 := by omega
  have hz0 : ((Z : Int) == 0) = false := by rw [beq_eq_false_iff_ne]; omega
  have hz4 : ¬ Z = 0 := by omega
  have hz5 : (0 : Int) < (Z : Int) := by omega
  rw [Int.toNat_natCast] at hmod
  obtain ⟨r, hr⟩ : ∃ r : Nat, r = a.length % Z := ⟨_, rfl⟩
  have hr1 : (a.length : Int) % (Z : Int) = (r : Int) := by rw [hr]; rfl
  have hr2 : (a.length : Int).tmod (Z : Int) = (r : Int) := by rw [Int.tmod_eq_emod_of_nonneg (by omega)]; exact hr1
  have hr3 : r ≤ 4096 := by rw [hr]; have := Nat.mod_lt a.length (show Z > 0 by omega); omega
  have hr4 : IntKind.i64.wrap ((a.length : Int).tmod (Z : Int)) = (r : Int) := by rw [hr2, IntKind.wrap_i64]; omega
  have hr5 : wrap64 ((a.length : Int).tmod (Z : Int)) = (r : Int) := by rw [hr2]; unfold wrap64; omega
  have hr6 : (((r : Nat) : Int) != 0) = false := by rw [show r = 0 from hr.trans hmod]; rfl
  have hs0 : ((r : Nat) : Int) = 0 := by rw [hr, hmod]; rfl
  have hs1 : (a.length : Int).tmod (Z : Int) = 0 := by rw [hr2]; exact hs0
  have hs2 : IntKind.i64.wrap ((a.length : Int).tmod (Z : Int)) = 0 := by rw [hr4]; exact hs0
  have hs3 : wrap64 ((a.length : Int).tmod (Z : Int)) = 0 := by rw [hr5]; exact hs0
  have hs4 : Z ∣ a.length := Nat.dvd_of_mod_eq_zero hmod
  have hs5 : (Z : Int) ∣ (a.length : Int) := Int.ofNat_dvd.2 hs4
  have hs6 : (a.length : Int) % (Z : Int) = 0 := by rw [hr1]; exact hs0
  clear hr3 hr4 hr5 hr6 hs0
  have d7 : decide ((a.length : Int) < m) = false := decide_eq_false (by omega)
  have d8 : decide ((b.length : Int) < m) = true := decide_eq_true (by omega)
  clear hr hr1 hr2
  obtain ⟨W0, hW, hR, hB⟩ := box1 w 23 #[.int .i64 k, .int .i64 Z, .int .i64 m, .int .i64 o]
  obtain ⟨g, hg⟩ : ∃ g, g = w.heap.size := ⟨_, rfl⟩
  have hW' := Lib.hid (And.intro hW hg)
  rw [← hg] at hR
  have hgw : w.heap.size ≤ g := by omega
  clear hW hg
  have hKp := hR
  replace ha := ha.below hB
  replace hb := hb.below hB
  obtain ⟨c1_hKp_0, c1_hKp_1, c1_hKp_2, c1_hKp_3⟩ := hKp.quad
  go_enter Try.func5, Try.ntmps5
  go_wp2_with fail
  rw [← hW'.out.1, ← hW'.out.2]
  refine (hM _).mono ?_
  rintro e w1 ⟨rfl, b1⟩
  replace ha := ha.below b1
  replace hb := hb.below b1
  replace hKp := hKp.below b1 hKp.lt
  replace hB := hB.trans (b1.mono hB.size)
  clear c1_hKp_0 c1_hKp_1 c1_hKp_2 c1_hKp_3
  obtain ⟨c2_hKp_0, c2_hKp_1, c2_hKp_2, c2_hKp_3⟩ := hKp.quad
  go_wp2_with fail
  refine (hL _).mono ?_
  rintro e w2 ⟨rfl, b2⟩
  replace ha := ha.below b2
  replace hb := hb.below b2
  replace hKp := hKp.below b2 hKp.lt
  replace hB := hB.trans (b2.mono hB.size)
  clear c2_hKp_0 c2_hKp_1 c2_hKp_2 c2_hKp_3
  obtain ⟨c3_hKp_0, c3_hKp_1, c3_hKp_2, c3_hKp_3⟩ := hKp.quad
  go_wp2
  go_ret
  exact ⟨rfl, hB⟩
end Go.Proofs.Ytochabikpaoalaa
