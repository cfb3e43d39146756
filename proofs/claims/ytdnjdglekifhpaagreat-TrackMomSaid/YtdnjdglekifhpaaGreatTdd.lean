/- A part of the proof of: MOMENTUM: against the real velocities of the same gradients, from noughts on, kept velocities are never farther away than their bounds, step by step. No conditions: every input. -/
import Derived.Test.YtdnjdglekifhpaaGreatTdc
namespace Go.Proofs.YtdnjdglekifhpaaGreat
open Go.RowKit
def ng (x : Int) : Int := IntKind.i64.wrap (-x)
end Go.Proofs.YtdnjdglekifhpaaGreat
namespace Go.Proofs.YtdnjdglekifhpaaGreat
open Go.RowKit
attribute [local go_sem ↓] Go.wp_at_zero Go.wp_at_succ
end Go.Proofs.YtdnjdglekifhpaaGreat
namespace Go.Proofs.YtdnjdglekifhpaaGreat
theorem rne_zero (d : Nat) (_hd : 0 < d) : rne 0 d = 0 := by unfold rne; rw [if_neg (by simp)]; simp
theorem fitE_zero {z : Int} (h : fitE z = 0) : fitV z = z ∧ -9223372036854775808 ≤ z ∧ z ≤ 9223372036854775807 := by
 unfold fitE at h
 by_cases hz : -9223372036854775808 ≤ z ∧ z ≤ 9223372036854775807
 · exact ⟨(fit_in hz).1, hz⟩
 · rw [if_neg hz] at h; omega
theorem joinE_zero {e x : Int} (h : joinE e x = 0) : e = 0 ∧ x = 0 := by
 unfold joinE at h; split at h <;> simp_all
theorem stE_parts {lr mu wd : Int} {nest : Bool} {f : Nat} {w v g : Int} (h : stE lr mu wd nest f w v g = 0) :
   stD wd f w g = g + mulZ wd w f ∧ stV mu f v (stD wd f w g) = mulZ mu v f + stD wd f w g ∧
   (nest = true → stU nest mu f (stD wd f w g) (stV mu f v (stD wd f w g)) = stD wd f w g + mulZ mu (stV mu f v (stD wd f w g)) f) ∧ (nest = false → stU nest mu f (stD wd f w g) (stV mu f v (stD wd f w g)) = stV mu f v (stD wd f w g)) ∧
   stW lr f w (stU nest mu f (stD wd f w g) (stV mu f v (stD wd f w g))) = w - mulZ lr (stU nest mu f (stD wd f w g) (stV mu f v (stD wd f w g))) f := by
 unfold stE at h
 dsimp only at h
 obtain ⟨e1, h⟩ := joinE_zero h
 obtain ⟨e2, h⟩ := joinE_zero h
 obtain ⟨e3, h⟩ := joinE_zero h
 obtain ⟨e4, h⟩ := joinE_zero h
 obtain ⟨e5, h⟩ := joinE_zero h
 obtain ⟨e6, e7⟩ := joinE_zero h
 have k1 := (fitE_zero e1).1
 have k2 := (fitE_zero e2).1
 have k3 := (fitE_zero e3).1
 have k4 := (fitE_zero e4).1
 have k6 := (fitE_zero e6).1
 have k7 := (fitE_zero e7).1
 refine ⟨?_, ?_, ?_, ?_, ?_⟩
 · unfold stD; rw [k2, k1]
 · rw [stV, k4, k3]
 · intro hn; subst hn
   simp only [if_true] at e5
   obtain ⟨e8, e9⟩ := joinE_zero e5
   rw [stU, if_pos rfl, (fitE_zero e9).1, (fitE_zero e8).1]
 · intro hn; subst hn; rw [stU, if_neg (by simp)]
 · rw [stW, k7, k6]
theorem errTo_zero {lr mu wd : Int} {nest : Bool} {f : Nat} {W M G : List Int} : ∀ {n : Nat}, errTo lr mu wd nest f W M G n = 0 → ∀ i, i < n → stE lr mu wd nest f (iat W i) (iat M i) (iat G i) = 0
 | 0, _, i, hi => by omega
 | n + 1, h, i, hi => by
   obtain ⟨h1, h2⟩ := joinE_zero (show joinE (errTo lr mu wd nest f W M G n) (stE lr mu wd nest f (iat W n) (iat M n) (iat G n)) = 0 from h)
   rcases Nat.lt_or_ge i n with hlt | hge
   · exact errTo_zero h1 i hlt
   · obtain rfl : i = n := by omega
     exact h2
end Go.Proofs.YtdnjdglekifhpaaGreat
namespace Go.Proofs.YtdnjdglekifhpaaGreat
theorem sided_zero (b : Bool) : sided b 0 = 0 := by cases b <;> simp [sided]
theorem mulZ_zero_left (b : Int) (f : Nat) : mulZ 0 b f = 0 := by
 unfold mulZ
 rw [show (0 : Int).natAbs * b.natAbs = 0 from by simp, rne_zero _ (Nat.pow_pos (by omega : 0 < 2)), sided_zero]
theorem fitV_of {z : Int} (h : In64 z) : fitV z = z := (fit_in h).1
theorem In64.zero : In64 0 := by unfold In64; omega
theorem fitV0 : fitV 0 = 0 := fitV_of In64.zero
theorem stD_plain {g : Int} (f : Nat) (w : Int) (h : In64 g) : stD 0 f w g = g := by unfold stD; rw [mulZ_zero_left, fitV0, Int.add_zero, fitV_of h]
theorem iat_map (g : Nat → Int) (n i : Nat) (h : i < n) : iat ((List.range n).map g) i = g i := by unfold iat; simp [h]
end Go.Proofs.YtdnjdglekifhpaaGreat
namespace Go.Proofs.YtdnjdglekifhpaaGreat
end Go.Proofs.YtdnjdglekifhpaaGreat
namespace Go.Proofs.YtdnjdglekifhpaaGreat
theorem rne_near (x D : Nat) (hD : 0 < D) : 2 * ((rne x D : Int) * D - x).natAbs ≤ D := by
 have e := Nat.div_add_mod x D
 have hr := Nat.mod_lt x hD
 unfold rne
 split
 · rename_i h
   have : ((x / D + 1 : Nat) : Int) * D = ((D * (x / D) : Nat) : Int) + D := by rw [Nat.mul_comm]; simp [Int.add_mul]
   rw [this]; omega
 · rename_i h
   have : ((x / D : Nat) : Int) * D = ((D * (x / D) : Nat) : Int) := by rw [Nat.mul_comm]; simp
   rw [this]; omega
theorem mulZ_near (a b : Int) (k : Nat) : 2 * (mulZ a b k * ((2 ^ k : Nat) : Int) - a * b).natAbs ≤ 2 ^ k := by
 have h := rne_near (a.natAbs * b.natAbs) (2 ^ k) (Nat.pow_pos (by omega))
 have e := mul_sided a b
 rw [← e]
 unfold mulZ
 generalize rne (a.natAbs * b.natAbs) (2 ^ k) = m at *
 generalize a.natAbs * b.natAbs = x at *
 generalize (2 ^ k : Nat) = D at *
 cases (decide (a < 0) != decide (b < 0))
 · simpa [sided] using h
 · simp only [sided, if_true, Int.neg_mul]
   omega
def far2 (n : Int) (r : Rat) (k : Nat) : Int := cmpQ (absQ (mkRat n (2 ^ k) - r) + absQ (mkRat n (2 ^ k) - r)) (mkRat 1 (2 ^ k))
end Go.Proofs.YtdnjdglekifhpaaGreat
namespace Go.Proofs.YtdnjdglekifhpaaGreat
theorem mk_int (z : Int) (k : Nat) : mkRat z (2 ^ k) = (z : Rat) * mkRat 1 (2 ^ k) := by
 rw [Rat.mkRat_eq_div, Rat.mkRat_eq_div]
 have h : ((1 : Int) : Rat) = 1 := rfl
 rw [h]; grind
theorem mulQ_near (a b : Int) (k : Nat) : 2 * (((mulZ a b k : Int) : Rat) - (a : Rat) * (b : Rat) * mkRat 1 (2 ^ k)) ≤ 1 ∧ 2 * ((a : Rat) * (b : Rat) * mkRat 1 (2 ^ k) - ((mulZ a b k : Int) : Rat)) ≤ 1 := by
 have h := mulZ_near a b k
 obtain ⟨s1, s2⟩ := stepP k
 generalize mkRat 1 (2 ^ k) = st at *
 generalize mulZ a b k = m at *
 have hP : (((2 ^ k : Nat) : Int) : Rat) = ((2 ^ k : Nat) : Rat) := rfl
 generalize (2 ^ k : Nat) = P at *
 have key : ∀ u : Int, u ≤ (((m * (P : Int) - a * b).natAbs : Nat) : Int) → ((2 * u : Int) : Rat) * st ≤ 1 := by
   intro u hu
   have h1 : ((2 * u : Int) : Rat) ≤ ((P : Int) : Rat) := by rw [Rat.intCast_le_intCast]; omega
   have := Rat.mul_le_mul_of_nonneg_right h1 (Rat.le_of_lt s1)
   rw [hP] at this
   rw [Rat.mul_comm] at s2
   grind
 have k1 := key (m * (P : Int) - a * b) (by omega)
 have k2 := key (a * b - m * (P : Int)) (by omega)
 have p2 : ((2 : Int) : Rat) = 2 := rfl
 rw [Rat.intCast_mul, Rat.intCast_sub, Rat.intCast_mul, Rat.intCast_mul, hP, p2] at k1 k2
 generalize (P : Rat) = Q at *
 generalize (m : Rat) = m' at *
 generalize (a : Rat) = a' at *
 generalize (b : Rat) = b' at *
 have e : m' * Q * st = m' := by rw [Rat.mul_assoc, Rat.mul_comm Q, s2, Rat.mul_one]
 constructor <;> grind
theorem next_ge (beta : Int) (k : Nat) (B m : Rat) : mkRat beta (2 ^ k) * B + m ≤ nextQ beta k B m := by
 have hn := (next_up beta k B m).1
 rw [num_neg_iff, Rat.not_lt] at hn
 grind
def Kept (v m : Int) (q : Rat) : Prop := (v : Rat) - (m : Rat) ≤ q ∧ (m : Rat) - (v : Rat) ≤ q
theorem mom_on {mu V g v : Int} {k : Nat} {R B q : Rat} (h0 : 0 ≤ mu) (h : stepsQ V k R ≤ B) (hv : Kept v (mulZ mu V k + g) q) :
   stepsQ v k (mkRat mu (2 ^ k) * R + mkRat g (2 ^ k)) ≤ nextQ mu k B (q + mkRat 1 2) := by
 have hn := next_ge mu k B (q + mkRat 1 2)
 have hm := mulQ_near mu V k
 have hh : mkRat 1 2 = 1 / 2 := by decide +kernel
 have ha := man_nonneg k h0
 rw [steps_le] at *
 obtain ⟨s1, s2⟩ := stepP k
 obtain ⟨v1, v2⟩ := hv
 obtain ⟨m1, m2⟩ := hm
 obtain ⟨h1, h2⟩ := h
 rw [hh] at hn ⊢
 generalize nextQ mu k B (q + 1 / 2) = N at *
 rw [mk_int mu, mk_int V] at *
 rw [mk_int g, mk_int v]
 rw [Rat.intCast_add] at v1 v2
 generalize mkRat 1 (2 ^ k) = st at *
 generalize mulZ mu V k = m at *
 have s0 := Rat.le_of_lt s1
 have f1 := Rat.mul_le_mul_of_nonneg_right v1 s0
 have f1' := Rat.mul_le_mul_of_nonneg_right v2 s0
 have f2 := Rat.mul_le_mul_of_nonneg_right m1 s0
 have f2' := Rat.mul_le_mul_of_nonneg_right m2 s0
 have f3 := Rat.mul_le_mul_of_nonneg_left h1 ha
 have f3' := Rat.mul_le_mul_of_nonneg_left h2 ha
 have f4 := Rat.mul_le_mul_of_nonneg_right hn s0
 generalize (mu : Rat) = a at *
 generalize (V : Rat) = x at *
 generalize (g : Rat) = y at *
 generalize (v : Rat) = z at *
 generalize (m : Rat) = u at *
 clear s2 hh ha v1 v2 m1 m2 h1 h2 hn s0 s1
 constructor <;> grind
end Go.Proofs.YtdnjdglekifhpaaGreat
namespace Go.Proofs.YtdnjdglekifhpaaGreat
open Go.RowKit
def TypI (w : World) (v : Value) : Prop := ∀ g, v.ownBlock = some g → ∃ cs fr, w.heap[g]? = some (.cells cs 2 fr)
section
variable {w w' W : World} {v u : Value} {l : List Int} {g : Nat}
theorem TypI.below (h : TypI w v) (hb : Below w.heap.size w w') : TypI w' v := fun g e => by
 obtain ⟨cs, fr, hc⟩ := h g e
 exact ⟨cs, fr, (hb.block g (Array.getElem?_eq_some_iff.1 hc).1).trans hc⟩
theorem TypI.of_arr (h : ArrI w v l) : TypI w v := by
 obtain ⟨g, n, rfl, _, _, h⟩ := h
 intro g' e
 obtain rfl : g = g' := by simpa [Value.ownBlock] using e
 exact ⟨_, _, h⟩
theorem TypI.of_own {B n : Nat} {xs : List Value} (h : w.ownsRow B 2 1 v n xs) : TypI w v := by
 intro g e
 rcases h.2 with ⟨rfl, _⟩ | ⟨g', cap, cur, rfl, _, hg, _⟩
 · simp [Value.ownBlock] at e
 · obtain rfl : g' = g := by simpa [Value.ownBlock] using e
   exact ⟨_, _, hg⟩
theorem TypI.nil (w : World) : TypI w (.slice none 0 0) := fun g e => by simp [Value.ownBlock] at e
def Moved (w W : World) (g : Nat) : Prop := w.grownBy W (some g) ∧ (∃ cs fr, w.heap[g]? = some (.cells cs 32 fr)) ∧ ∀ u l, IsL w u l → IsL W u l
theorem int_ne_rat : 2 ≠ 32 := by decide
theorem IsI.moved (h : IsI w v l) (ht : TypI w v) (hm : Moved w W g) : IsI W v l := by
 obtain ⟨A, c, rfl, h1, h2, h3, h4⟩ := h
 refine ⟨A, c, rfl, h1, h2, h3, fun hn => ?_⟩
 obtain ⟨ad, rfl, hb, hc⟩ := h4 hn
 refine ⟨ad, rfl, Nat.lt_of_lt_of_le hb hm.1.size, fun j y hj => ?_⟩
 rw [← hc j y hj]
 refine World.cell?_of_block (hm.1.block _ (by rw [block_of_add]; exact hb) (fun e2 => ?_))
 rw [block_of_add] at e2
 obtain ⟨cs, fr, k1⟩ := ht ad.block rfl
 obtain ⟨cs', fr', k2⟩ := hm.2.1
 injection e2 with e2
 rw [e2, k2] at k1
 injection k1 with k1
 injection k1 with _ k1
 exact int_ne_rat k1.symm
theorem TypI.moved (ht : TypI w v) (hm : Moved w W g) : TypI W v := by
 intro x e
 obtain ⟨cs, fr, k1⟩ := ht x e
 obtain ⟨cs', fr', k2⟩ := hm.2.1
 refine ⟨cs, fr, (hm.1.block x (Array.getElem?_eq_some_iff.1 k1).1 (fun e2 => ?_)).trans k1⟩
 injection e2 with e2
 rw [e2, k2] at k1
 injection k1 with k1
 injection k1 with _ k1
 exact int_ne_rat k1.symm
theorem Blk.moved {X : Nat} {t : TypeId} {cs : Array Value} (h : Blk w X t cs) (hm : Moved w W g) (hne : X ≠ g) : Blk W X t cs := (hm.1.block X h.lt (fun e => hne (by injection e))).trans h
theorem IsQ.moved {r : Rat} (h : IsQ w v r) (hm : Moved w W g) : IsQ W v r := h.filled hm.2.2
theorem OwnQs.moved {B : Nat} {rs : List Rat} (h : OwnQs w B v rs) (hm : Moved w W g) (hne : v.ownBlock ≠ some g) : OwnQs W B v rs :=
 h.filled hne hm.2.2 (fun _X _t _cs hb hX => Blk.moved hb hm hX)
theorem OwnQs.put2 {B i : Nat} {rs : List Rat} {s : Bool} {A D : Option Addr} {L C M E : Nat} {r : Rat} (h : OwnQs w B v rs) (hi : i < rs.length)
   (hq : IsQ w (.agg #[.bool s, .slice A L C, .slice D M E]) r) :
   ∃ g c, v = .slice (some ⟨g, 0, none⟩) rs.length c ∧ B ≤ g ∧ g < w.heap.size ∧ (∀ j, w.frozen? ⟨g, j, none⟩ = false) ∧ (∀ j, j < 3 → ∃ u, w.cell? ⟨g, i * 3 + j, none⟩ = some u ∧ u.oneCell' = true) ∧
     ∃ W, W = ((w.setCell ⟨g, i * 3, none⟩ (.bool s)).setCell ⟨g, i * 3 + 1, none⟩ (.slice A L C)).setCell ⟨g, i * 3 + 2, none⟩ (.slice D M E) ∧ OwnQs W B v (rs.set i r) ∧ Moved w W g := by
 have h0 := h
 obtain ⟨g, c, e, h1, h2, h3, h4, W, h5, h6, h7, h8⟩ := h.put hi hq
 refine ⟨g, c, e, h1, h2, h3, h4, W, h5, h6, h7, ?_, h8⟩
 obtain ⟨es, _, k2, _⟩ := h0
 subst e
 rcases k2.2 with ⟨e, _⟩ | ⟨g', cap, cur, e, _, hg, _⟩
 · simp at e
 · simp only [Value.slice.injEq, Option.some.injEq, Addr.mk.injEq, and_true, true_and] at e
   obtain ⟨rfl, _⟩ := e
   exact ⟨_, _, hg⟩
theorem OwnQs.at0 {B i : Nat} {rs : List Rat} (h : OwnQs w B v rs) (hi : i < rs.length) :
   ∃ g c s A L C D M E, v = .slice (some ⟨g, 0, none⟩) rs.length c ∧ B ≤ g ∧ g < w.heap.size ∧ w.cell? ⟨g, i * 3, none⟩ = some (.bool s) ∧ w.cell? ⟨g, i * 3 + 1, none⟩ = some (.slice A L C) ∧ w.cell? ⟨g, i * 3 + 2, none⟩ = some (.slice D M E) ∧
     IsQ w (.agg #[.bool s, .slice A L C, .slice D M E]) rs[i] := by
 obtain ⟨es, k1, k2, k3⟩ := h
 have hl := k1.1
 obtain ⟨g, c, rfl, hb, hg⟩ : ∃ g c, v = .slice (some ⟨g, 0, none⟩) rs.length c ∧ B ≤ g ∧ g < w.heap.size := by
   rcases k2.2 with ⟨rfl, hn⟩ | ⟨g, cap, cur, rfl, hb, hg, _⟩
   · omega
   · exact ⟨g, cap, rfl, hb, (Array.getElem?_eq_some_iff.1 hg).1⟩
 have hfl := flatQ_len es
 have he : es[i]? = some es[i] := List.getElem?_eq_getElem (by omega)
 have hq := k1.2 i es[i] rs[i] he (List.getElem?_eq_getElem hi)
 generalize es[i] = e at he hq
 obtain ⟨s, p, q⟩ := e
 obtain ⟨⟨A, L, C, e1⟩, ⟨D, M, E, e2⟩⟩ := hq.slices
 simp only at e1 e2
 subst e1; subst e2
 refine ⟨g, c, s, A, L, C, D, M, E, rfl, hb, hg, ?_, ?_, ?_, hq⟩
 · have := flatQ_at es i 0 _ he (by omega)
   rw [k2.cellAt _ (by omega)]
   rw [Nat.add_zero] at this
   rw [this]; rfl
 all_goals rw [k2.cellAt _ (by omega), flatQ_at es i _ _ he (by omega)]; rfl
end
structure Core (w : World) (M4 K6 R9 O11 B S : Nat) (mc kc qc rc : Array Value) (mq : Rat) (vr vb : Value) (rs bs : List Rat) : Prop where
 m : Blk w M4 79 mc
 k : Blk w K6 23 kc
 q : Blk w R9 32 qc
 n : IsQ w (.agg qc) mq
 o : Blk w O11 64 rc
 r : OwnQs w B vr rs
 b : OwnQs w S vb bs
 sep : ∀ g, vr.ownBlock = some g → g < S
 ord : M4 < K6 ∧ K6 < R9 ∧ R9 < O11 ∧ O11 < B ∧ B ≤ S
section
variable {w w' W : World} {M4 K6 R9 O11 B S g i : Nat} {mc kc qc rc : Array Value} {mq : Rat} {vr vb : Value} {rs bs : List Rat}
theorem Core.below (h : Core w M4 K6 R9 O11 B S mc kc qc rc mq vr vb rs bs) (hb : Below w.heap.size w w') : Core w' M4 K6 R9 O11 B S mc kc qc rc mq vr vb rs bs :=
 ⟨h.m.below hb h.m.lt, h.k.below hb h.k.lt, h.q.below hb h.q.lt, h.n.below hb, h.o.below hb h.o.lt, h.r.below hb, h.b.below hb, h.sep, h.ord⟩
theorem Core.rows {rc' : Array Value} (h : Core w M4 K6 R9 O11 B S mc kc qc rc mq vr vb rs bs) (hf : Filled w W O11 64 rc') : Core W M4 K6 R9 O11 B S mc kc qc rc' mq vr vb rs bs := by
 obtain ⟨f1, f2, f3, f4⟩ := hf
 obtain ⟨o1, o2, o3, o4, o5⟩ := h.ord
 refine ⟨f3 _ _ _ h.m (by omega), f3 _ _ _ h.k (by omega), f3 _ _ _ h.q (by omega), h.n.filled f2, f1, h.r.filled (fun e => ?_) f2 f3, h.b.filled (fun e => ?_) f2 f3, h.sep, h.ord⟩
 · have := (h.r.lt _ e).1; omega
 · have := (h.b.lt _ e).1; omega
theorem Core.putR {s : Bool} {A D : Option Addr} {L C M E : Nat} {r : Rat} (h : Core w M4 K6 R9 O11 B S mc kc qc rc mq vr vb rs bs) (hi : i < rs.length)
   (hq : IsQ w (.agg #[.bool s, .slice A L C, .slice D M E]) r) :
   ∃ g c, vr = .slice (some ⟨g, 0, none⟩) rs.length c ∧ B ≤ g ∧ g < S ∧ (∀ j, w.frozen? ⟨g, j, none⟩ = false) ∧ (∀ j, j < 3 → ∃ u, w.cell? ⟨g, i * 3 + j, none⟩ = some u ∧ u.oneCell' = true) ∧
     ∃ W, W = ((w.setCell ⟨g, i * 3, none⟩ (.bool s)).setCell ⟨g, i * 3 + 1, none⟩ (.slice A L C)).setCell ⟨g, i * 3 + 2, none⟩ (.slice D M E) ∧ Core W M4 K6 R9 O11 B S mc kc qc rc mq vr vb (rs.set i r) bs ∧ Moved w W g := by
 obtain ⟨o1, o2, o3, o4, o5⟩ := h.ord
 obtain ⟨g, c, e, h1, h2, h3, h4, W, h5, h6, hm⟩ := h.r.put2 hi hq
 have hgS : g < S := h.sep g (by rw [e]; rfl)
 exact ⟨g, c, e, h1, hgS, h3, h4, W, h5, ⟨h.m.moved hm (by omega), h.k.moved hm (by omega), h.q.moved hm (by omega), h.n.moved hm, h.o.moved hm (by omega), h6, h.b.moved hm (fun e2 => by have := (h.b.lt _ e2).1; omega), h.sep, h.ord⟩, hm⟩
theorem Core.putB {s : Bool} {A D : Option Addr} {L C M E : Nat} {r : Rat} (h : Core w M4 K6 R9 O11 B S mc kc qc rc mq vr vb rs bs) (hi : i < bs.length)
   (hq : IsQ w (.agg #[.bool s, .slice A L C, .slice D M E]) r) :
   ∃ g c, vb = .slice (some ⟨g, 0, none⟩) bs.length c ∧ S ≤ g ∧ g < w.heap.size ∧ (∀ j, w.frozen? ⟨g, j, none⟩ = false) ∧ (∀ j, j < 3 → ∃ u, w.cell? ⟨g, i * 3 + j, none⟩ = some u ∧ u.oneCell' = true) ∧
     ∃ W, W = ((w.setCell ⟨g, i * 3, none⟩ (.bool s)).setCell ⟨g, i * 3 + 1, none⟩ (.slice A L C)).setCell ⟨g, i * 3 + 2, none⟩ (.slice D M E) ∧ Core W M4 K6 R9 O11 B S mc kc qc rc mq vr vb rs (bs.set i r) ∧ Moved w W g := by
 obtain ⟨o1, o2, o3, o4, o5⟩ := h.ord
 obtain ⟨g, c, e, h1, h2, h3, h4, W, h5, h6, hm⟩ := h.b.put2 hi hq
 exact ⟨g, c, e, h1, h2, h3, h4, W, h5, ⟨h.m.moved hm (by omega), h.k.moved hm (by omega), h.q.moved hm (by omega), h.n.moved hm, h.o.moved hm (by omega), h.r.moved hm (fun e2 => by have := h.sep _ e2; omega), h6, h.sep, h.ord⟩, hm⟩
end
end Go.Proofs.YtdnjdglekifhpaaGreat
namespace Go.Proofs.YtdnjdglekifhpaaGreat
open Go.RowKit
def qat (l : List Rat) (i : Nat) : Rat := l[i]?.getD 0
theorem qat_at {l : List Rat} {i : Nat} (h : i < l.length) : l[i] = qat l i := by unfold qat; rw [List.getElem?_eq_getElem h]; rfl
theorem qat_set {l : List Rat} {i : Nat} (h : i < l.length) (r : Rat) (j : Nat) : qat (l.set i r) j = if i = j then r else qat l j := by
 unfold qat
 by_cases e : i = j
 · subst e; rw [if_pos rfl, List.getElem?_set_self h]; rfl
 · rw [if_neg e, List.getElem?_set_ne e]
def Good (F j : Nat) (n : Int) (r b : Rat) : Prop := 0 ≤ b ∧ stepsQ n F r ≤ b ∧ BQ r (8 * 2 ^ j - 7) ∧ BQ b (116 * 2 ^ j - 115)
theorem Good.start (F : Nat) : Good F 0 0 0 0 := by
 have b0 : BQ (0 : Rat) 1 := BQ.int (n := 0) (by unfold W64; omega)
 refine ⟨Rat.le_refl, ?_, b0, b0⟩
 rw [steps_le]
 rw [show mkRat 0 (2 ^ F) = 0 from Rat.zero_mkRat _]
 constructor <;> grind
theorem sz_man1 {n : Int} {k : Nat} (hn : In64 n) (hk : k ≤ 40) : BQ (mkRat n (2 ^ k)) 1 := BQ.mk (Sz.u64 (by have := hn.1; have := hn.2; unfold W64; omega)) ((Sz.two_pow k).more (by omega)) (by omega)
theorem half_sz (n : Int) (hn : In64 n) : BQ (mkRat n 2) 1 := BQ.mk (Sz.u64 (by have := hn.1; have := hn.2; unfold W64; omega)) (Sz.u64 (by unfold W64; omega)) (by omega)
theorem next_sz {mu : Int} {k s q : Nat} {B Q : Rat} (hn : In64 mu) (hk : k ≤ 40) (hB : BQ B s) (hQ : BQ Q q) : BQ (nextQ mu k B Q) (2 * (s + 2 + q) + 25) := by
 have sh := sz_man1 hn hk
 have se := (sh.mul hB).add hQ
 exact BQ.mk ((sz_cel (k := 20) se).more (by omega)) ((Sz.two_pow 20).more (by omega)) (by omega)
theorem next_nonneg {mu : Int} {k : Nat} {B Q : Rat} (h0 : 0 ≤ mu) (hB : 0 ≤ B) (hQ : 0 ≤ Q) : 0 ≤ nextQ mu k B Q :=
 Rat.le_trans (Rat.add_nonneg (Rat.mul_nonneg (man_nonneg k h0) hB) hQ) (next_ge mu k B Q)
theorem half_pos (n : Int) (h : 0 ≤ n) : 0 ≤ mkRat n 2 := by
 rw [← Rat.divInt_ofNat]; exact Rat.divInt_nonneg h (Int.natCast_nonneg _)
theorem Good.step {F j : Nat} {mu V g v : Int} {R B q : Rat} (h : Good F j V R B) (hF : F ≤ 40) (im : In64 mu) (ig : In64 g) (h0 : 0 ≤ mu) (hv : Kept v (mulZ mu V F + g) q) (q0 : 0 ≤ q) (sq : BQ q 20) :
   Good F (j + 1) v (mkRat mu (2 ^ F) * R + mkRat g (2 ^ F)) (nextQ mu F B (q + mkRat 1 2)) := by
 obtain ⟨b0, b1, b2, b3⟩ := h
 have i1 : In64 1 := ⟨by omega, by omega⟩
 have hP : 1 ≤ 2 ^ j := Nat.one_le_two_pow
 have e : 2 ^ (j + 1) = 2 * 2 ^ j := by rw [Nat.pow_succ]; omega
 refine ⟨next_nonneg h0 b0 (Rat.add_nonneg q0 (half_pos 1 (by omega))), mom_on h0 b1 hv, ?_, ?_⟩
 · have := ((sz_man1 im hF).mul b2).add (sz_man1 ig hF)
   exact this.more (by rw [e]; omega)
 · have := next_sz im hF b3 (sq.add (half_sz 1 i1))
   exact this.more (by rw [e]; omega)
theorem Good.small {F j : Nat} {n : Int} {r b : Rat} (h : Good F j n r b) (hj : j ≤ 5) : BQ r 300 ∧ BQ b 4000 := by
 have hP : 2 ^ j ≤ 2 ^ 5 := Nat.pow_le_pow_right (by omega) hj
 exact ⟨h.2.2.1.more (by omega), h.2.2.2.more (by omega)⟩
theorem Good.small4 {F j : Nat} {n : Int} {r b : Rat} (h : Good F j n r b) (hj : j ≤ 4) : BQ r 300 ∧ BQ b 1800 := by
 have hP : 2 ^ j ≤ 2 ^ 4 := Nat.pow_le_pow_right (by omega) hj
 exact ⟨h.2.2.1.more (by omega), h.2.2.2.more (by omega)⟩
def GoodAll (F j k : Nat) (vs Ms : List Int) (rs bs : List Rat) : Prop := ∀ i, i < 2 → if i < k then Good F (j + 1) (iat vs i) (qat rs i) (qat bs i) else Good F j (iat Ms i) (qat rs i) (qat bs i)
theorem GoodAll.set {F j k : Nat} {vs Ms : List Int} {rs bs : List Rat} {r b : Rat} (h : GoodAll F j k vs Ms rs bs) (hk : k < 2) (h1 : rs.length = 2) (h2 : bs.length = 2) (hg : Good F (j + 1) (iat vs k) r b) : GoodAll F j (k + 1) vs Ms (rs.set k r) (bs.set k b) := by
 intro i hi
 rw [qat_set (by omega), qat_set (by omega)]
 have := h i hi
 by_cases e : k = i
 · subst e
   rw [if_pos (by omega), if_pos rfl, if_pos rfl]; exact hg
 · rw [if_neg e, if_neg e]
   by_cases hlt : i < k
   · rw [if_pos hlt] at this; rw [if_pos (by omega)]; exact this
   · rw [if_neg hlt] at this; rw [if_neg (by omega)]; exact this
theorem GoodAll.at_ {F j k : Nat} {vs Ms : List Int} {rs bs : List Rat} (h : GoodAll F j k vs Ms rs bs) (hk : k < 2) : Good F j (iat Ms k) (qat rs k) (qat bs k) := by
 have := h k hk; rwa [if_neg (by omega)] at this
theorem GoodAll.next {F j : Nat} {vs Ms Xs : List Int} {rs bs : List Rat} (h : GoodAll F j 2 vs Ms rs bs) : GoodAll F (j + 1) 0 Xs vs rs bs := fun i hi => by
 have := h i hi; rw [if_pos hi] at this; rw [if_neg (by omega)]; exact this
theorem made_at {lr mu : Int} {nest : Bool} {F : Nat} {W M G : List Int} (e : stErr lr mu 0 nest (F : Int) W M G = 0) (iG : AllIn G) {i : Nat} (hi : i < W.length) : plV mu 0 F W M G i = mulZ mu (iat M i) F + iat G i := by
 unfold stErr at e
 split at e
 · split at e
   · split at e
     · rename_i h
       rw [Int.toNat_natCast] at h
       obtain ⟨_, a2, _⟩ := stE_parts (errTo_zero h i hi)
       have hd := stD_plain F (iat W i) (iG i)
       unfold plV
       rw [a2, hd]
     · cases e
   · cases e
 · cases e
theorem kept_at {l m : List Int} {q : List Rat} (h : NearTo l m q) {i : Nat} (hi : i < l.length) : 0 ≤ qat q i ∧ Kept (iat m i) (iat l i) (qat q i) := by
 obtain ⟨h1, h2, h3⟩ := h
 have e : ∀ (a : List Int), i < a.length → a[i]? = some (iat a i) := fun a ha => by unfold iat; rw [List.getElem?_eq_getElem ha]; rfl
 obtain ⟨k1, k2⟩ := h3 i _ _ _ (e l hi) (e m (by omega)) (List.getElem?_eq_getElem (by omega))
 rw [qat_at (by omega)] at k1 k2
 exact ⟨k1, k2⟩
end Go.Proofs.YtdnjdglekifhpaaGreat
namespace Go.Proofs.YtdnjdglekifhpaaGreat
open Go.ChangeShapes Go.WideShapes Go.ChangeAt Go.RowKit
section
variable {H : Type} {enc : TypeId × Value → H} {W : World}
theorem cells_i64q : Tryz.prog.cellsOf 2 = 1 := by kernel_rfl
end
end Go.Proofs.YtdnjdglekifhpaaGreat
namespace Go.Proofs.YtdnjdglekifhpaaGreat
open Go.ChangeShapes Go.WideShapes Go.ChangeAt Go.RowKit Go.Joins Go.Deep
def IsP (w : World) (v : Value) (ps : List (Int × Int)) : Prop := ∃ A c, v = .slice A ps.length c ∧ ps.length ≤ c ∧ c ≤ 9223372036854775807 ∧
 (0 < ps.length → ∃ ad, A = some ad ∧ ad.block < w.heap.size ∧ ∀ (i : Nat) (p : Int × Int), ps[i]? = some p → w.cell? (ad.add (i * 2)) = some (.int .i64 p.1) ∧ w.cell? ((ad.add (i * 2)).add 1) = some (.int .i64 p.2))
theorem IsP.below {w w' : World} {v : Value} {ps : List (Int × Int)} (h : IsP w v ps) (hb : Below w.heap.size w w') : IsP w' v ps := by
 obtain ⟨A, c, e, h1, h2, h3⟩ := h
 refine ⟨A, c, e, h1, h2, fun h0 => ?_⟩
 obtain ⟨ad, e2, hl, hc⟩ := h3 h0
 refine ⟨ad, e2, Nat.lt_of_lt_of_le hl hb.size, fun i p hp => ?_⟩
 obtain ⟨k1, k2⟩ := hc i p hp
 exact ⟨(hb.cell (by rw [block_of_add]; exact hl)).trans k1, (hb.cell (by rw [block_of_add, block_of_add]; exact hl)).trans k2⟩
theorem IsP.len {w : World} {v : Value} {ps : List (Int × Int)} (h : IsP w v ps) : ∃ A c, v = .slice A ps.length c := by
 obtain ⟨A, c, e, _⟩ := h; exact ⟨A, c, e⟩
section
variable {H : Type} {enc : TypeId × Value → H} {W : World}
theorem cells_pair : Tryz.prog.cellsOf 34 = 2 := by kernel_rfl
theorem cells_pairs : Tryz.prog.cellsOf 80 = 1 := by kernel_rfl
theorem cells_momin : Tryz.prog.cellsOf 82 = 10 := by kernel_rfl
theorem cells_momc : Tryz.prog.cellsOf 79 = 4 := by kernel_rfl
theorem cells_boolm : Tryz.prog.cellsOf 4 = 1 := by kernel_rfl
set_option maxRecDepth 100000 in
theorem open_pair {fuel : Nat} {x y : Value} {d : DataW H × List MemPlace} (h : DataW.trod enc Tryz.prog W 0 (fun _ => true) true fuel 34 [x, y] = some d) :
   ∃ p : Int × Int, x = .int .i64 p.1 ∧ y = .int .i64 p.2 ∧ I64 p.1 ∧ I64 p.2 := by
 obtain ⟨xs, m, _, hxp, _, hl, h1⟩ := DataW.trod_array Tryz.underlying34 h
 match xs, hl with
 | [y0, y1], _ =>
   have a0 : DataW.trod enc Tryz.prog W 0 (fun _ => true) true m 2 (([x, y].drop (0 * Tryz.prog.cellsOf 2)).take (Tryz.prog.cellsOf 2)) = some y0 := h1 0 (by omega)
   have a1 : DataW.trod enc Tryz.prog W 0 (fun _ => true) true m 2 (([x, y].drop (1 * Tryz.prog.cellsOf 2)).take (Tryz.prog.cellsOf 2)) = some y1 := h1 1 (by omega)
   rw [cells_i64q] at a0 a1
   obtain ⟨n, e1, _, w1⟩ := DataW.trod_int Tryz.underlying2 a0
   obtain ⟨n', e2, _, w2⟩ := DataW.trod_int Tryz.underlying2 a1
   simp at e1 e2
   subst e1 e2
   exact ⟨(n, n'), rfl, rfl, wf_I64 w1, wf_I64 w2⟩
set_option maxRecDepth 100000 in
theorem open_pairs {fuel : Nat} {v : Value} {x : DataW H × List MemPlace} (h : DataW.trod enc Tryz.prog W 0 (fun _ => true) true fuel 80 [v] = some x) (hlt : ∀ p ∈ x.2, p.block < W.heap.size) :
   ∃ ps, IsP W v ps ∧ ∀ p ∈ ps, I64 p.1 ∧ I64 p.2 := by
 rcases open_slice Tryz.underlying80 h with ⟨hcs, hx⟩ | ⟨a, len, cap, m, n, D, Pl, hcs, _, hl, hm, hmm, hx, hi⟩
 · simp at hcs
   subst hcs
   exact ⟨[], ⟨none, 0, rfl, Nat.le_refl _, by omega, fun h0 => by simp at h0⟩, by simp⟩
 · simp at hcs
   subst hcs
   subst hx
   simp only [if_true] at hmm
   subst hmm
   unfold maxLen at hm
   rw [cells_pair] at hi hlt
   have hel : ∀ i, i < len → ∃ p : Int × Int, (W.cell? (a.add (i * 2)) = some (.int .i64 p.1) ∧ W.cell? ((a.add (i * 2)).add 1) = some (.int .i64 p.2)) ∧ I64 p.1 ∧ I64 p.2 := by
     intro i him
     obtain ⟨cs', hc, ht'⟩ := hi i (by omega)
     obtain ⟨_, hcl, hat⟩ := World.cells?_some hc
     match cs', hcl with
     | [c0, c1], _ =>
       obtain ⟨p, rfl, rfl, q1, q2⟩ := open_pair ht'
       refine ⟨p, ⟨?_, ?_⟩, q1, q2⟩
       · have := hat 0 (by omega)
         simpa [Addr.add] using this
       · exact hat 1 (by omega)
   obtain ⟨ps, hps, hp⟩ := list_of len hel
   refine ⟨ps, ⟨some a, m, by rw [hps], by omega, by omega, fun h0 => ⟨a, rfl, ?_, fun i p h => (hp i p h).1⟩⟩, fun b hb => ?_⟩
   · obtain ⟨b, off, spot⟩ := a
     have hx := hp 0 ps[0] (List.getElem?_eq_getElem (by omega))
     have hspot : spot = none := by simpa [Addr.add] using World.cell?_spot hx.1.1
     subst hspot
     exact hlt (.cell b off) (List.mem_append_left _ (MemPlace.mem_row.2 ⟨0, by omega, by simp⟩))
   · obtain ⟨i, hi'⟩ := List.getElem?_of_mem hb
     exact (hp _ _ hi').2
set_option maxRecDepth 100000 in
theorem open_momin {base : Nat} {v : Value} {d : DataW H} {p : List MemPlace} (hv : Value.okWide Tryz.prog W .any base 82 v) (h : DataW.Trod enc Tryz.prog W 0 (fun _ => true) true 82 v d p)
   (hlt : ∀ x ∈ p, x.block < W.heap.size) :
   ∃ (lr mu wd : Int) (nest : Bool) (f k z m o : Int) (g : Value) (ps : List (Int × Int)), v = .agg #[.int .i64 lr, .int .i64 mu, .int .i64 wd, .bool nest, .int .i64 f, .int .i64 k, .int .i64 z, .int .i64 m, .int .i64 o, g] ∧ (I64 lr ∧ I64 mu ∧ I64 wd ∧ I64 f) ∧ IsP W g ps ∧ ∀ p ∈ ps, I64 p.1 ∧ I64 p.2 := by
 obtain ⟨cs, rfl, hsz⟩ := okWide_struct Tryz.underlying82 hv
 obtain ⟨l⟩ := cs
 match l, hsz.trans cells_momin with
 | [c0, c1, c2, c3, c4, c5, c6, c7, c8, c9], _ =>
   obtain ⟨fuel, hf⟩ := h
   obtain ⟨xs, n, _, hx, _, hlen, hg⟩ := DataW.trod_struct Tryz.underlying82 hf
   match xs, hlen with
   | [y0, y1, y2, y3], _ =>
     obtain ⟨rfl, rfl⟩ := Prod.mk.inj hx
     have a0 : DataW.trod enc Tryz.prog W 0 (fun _ => true) true n 79 (([c0, c1, c2, c3, c4, c5, c6, c7, c8, c9].drop 0).take (Tryz.prog.cellsOf 79)) = some y0 := hg 0 _ rfl
     have a1 : DataW.trod enc Tryz.prog W 0 (fun _ => true) true n 3 (([c0, c1, c2, c3, c4, c5, c6, c7, c8, c9].drop 4).take (Tryz.prog.cellsOf 3)) = some y1 := hg 1 _ rfl
     have a2 : DataW.trod enc Tryz.prog W 0 (fun _ => true) true n 23 (([c0, c1, c2, c3, c4, c5, c6, c7, c8, c9].drop 5).take (Tryz.prog.cellsOf 23)) = some y2 := hg 2 _ rfl
     have a3 : DataW.trod enc Tryz.prog W 0 (fun _ => true) true n 80 (([c0, c1, c2, c3, c4, c5, c6, c7, c8, c9].drop 9).take (Tryz.prog.cellsOf 80)) = some y3 := hg 3 _ rfl
     rw [cells_momc] at a0
     rw [cells_intk] at a1
     rw [cells_keep] at a2
     rw [cells_pairs] at a3
     obtain ⟨f, e1, _, w1⟩ := DataW.trod_int Tryz.underlying3 a1
     obtain ⟨xs1, n1, _, _, _, hl1, hg1⟩ := DataW.trod_struct Tryz.underlying79 a0
     obtain ⟨xs2, n2, _, _, _, hl2, hg2⟩ := DataW.trod_struct Tryz.underlying23 a2
     match xs1, hl1, xs2, hl2 with
     | [u0, u1, u2, u3], _, [z0, z1, z2, z3], _ =>
       have m0 : DataW.trod enc Tryz.prog W 0 (fun _ => true) true n1 2 (([c0, c1, c2, c3].drop 0).take (Tryz.prog.cellsOf 2)) = some u0 := hg1 0 _ rfl
       have m1 : DataW.trod enc Tryz.prog W 0 (fun _ => true) true n1 2 (([c0, c1, c2, c3].drop 1).take (Tryz.prog.cellsOf 2)) = some u1 := hg1 1 _ rfl
       have m2 : DataW.trod enc Tryz.prog W 0 (fun _ => true) true n1 2 (([c0, c1, c2, c3].drop 2).take (Tryz.prog.cellsOf 2)) = some u2 := hg1 2 _ rfl
       have m3 : DataW.trod enc Tryz.prog W 0 (fun _ => true) true n1 4 (([c0, c1, c2, c3].drop 3).take (Tryz.prog.cellsOf 4)) = some u3 := hg1 3 _ rfl
       have b0 : DataW.trod enc Tryz.prog W 0 (fun _ => true) true n2 3 (([c5, c6, c7, c8].drop 0).take (Tryz.prog.cellsOf 3)) = some z0 := hg2 0 _ rfl
       have b1 : DataW.trod enc Tryz.prog W 0 (fun _ => true) true n2 3 (([c5, c6, c7, c8].drop 1).take (Tryz.prog.cellsOf 3)) = some z1 := hg2 1 _ rfl
       have b2 : DataW.trod enc Tryz.prog W 0 (fun _ => true) true n2 3 (([c5, c6, c7, c8].drop 2).take (Tryz.prog.cellsOf 3)) = some z2 := hg2 2 _ rfl
       have b3 : DataW.trod enc Tryz.prog W 0 (fun _ => true) true n2 2 (([c5, c6, c7, c8].drop 3).take (Tryz.prog.cellsOf 2)) = some z3 := hg2 3 _ rfl
       rw [cells_i64k] at m0 m1 m2 b3
       rw [cells_boolm] at m3
       rw [cells_intk] at b0 b1 b2
       obtain ⟨lr, d0, _, v0⟩ := DataW.trod_int Tryz.underlying2 m0
       obtain ⟨mu, d1, _, v1⟩ := DataW.trod_int Tryz.underlying2 m1
       obtain ⟨wd, d2, _, v2⟩ := DataW.trod_int Tryz.underlying2 m2
       obtain ⟨ne, d3, _⟩ := DataW.trod_bool Tryz.underlying4 m3
       obtain ⟨k, f0, _, _⟩ := DataW.trod_int Tryz.underlying3 b0
       obtain ⟨z, f1, _, _⟩ := DataW.trod_int Tryz.underlying3 b1
       obtain ⟨m, f2, _, _⟩ := DataW.trod_int Tryz.underlying3 b2
       obtain ⟨o, f3, _, _⟩ := DataW.trod_int Tryz.underlying2 b3
       simp at e1 d0 d1 d2 d3 f0 f1 f2 f3
       subst e1 d0 d1 d2 d3 f0 f1 f2 f3
       obtain ⟨ps, hps, hin⟩ := open_pairs (show DataW.trod enc Tryz.prog W 0 (fun _ => true) true n 80 [c9] = some y3 from a3) (fun p hp => hlt p (by simp [hp]))
       exact ⟨lr, mu, wd, ne, f, k, z, m, o, c9, ps, rfl, ⟨wf_I64 v0, wf_I64 v1, wf_I64 v2, wf_I64 w1⟩, hps, hin⟩
end
end Go.Proofs.YtdnjdglekifhpaaGreat
namespace Go.Proofs.YtdnjdglekifhpaaGreat
open Go.RowKit
attribute [local go_sem ↓] Go.wp_at_zero Go.wp_at_succ
theorem fillLast {w : World} {R : Nat} {t : TypeId} {a b c d : Value} (hR : Blk w R t #[a, b, c, d]) (x : Value) (hcs : (#[a, b, c, d] : Array Value).all noU = true) : ∃ W, W = w.setCell ⟨R, 3, none⟩ x ∧ Filled w W R t #[a, b, c, x] ∧ (∀ k, k ≠ R → W.heap[k]? = w.heap[k]?) ∧ w.heap.size ≤ W.heap.size :=
 ⟨_, rfl, ⟨by simpa using hR.set_ 3 x, fun v l h => h.keepBlk hR hcs (fun k hk => Below.heap_setCell w ⟨R, 3, none⟩ x k hk) (by simp [World.setCell]), fun g t' cs h hne => h.far (p := ⟨R, 3, none⟩) hne x, fun B w0 hBR hB => hB.setCell (p := ⟨R, 3, none⟩) hBR x⟩, fun k hk => Below.heap_setCell w ⟨R, 3, none⟩ x k hk, by simp [World.setCell]⟩
theorem fillFour {w : World} {R : Nat} {t : TypeId} {a b c d : Value} (hR : Blk w R t #[a, b, c, d]) (x y z u : Value) (hcs : (#[a, b, c, d] : Array Value).all noU = true) : ∃ W, W = (((w.setCell ⟨R, 0, none⟩ x).setCell ⟨R, 1, none⟩ y).setCell ⟨R, 2, none⟩ z).setCell ⟨R, 3, none⟩ u ∧ Filled w W R t #[x, y, z, u] ∧ (∀ k, k ≠ R → W.heap[k]? = w.heap[k]?) ∧ w.heap.size ≤ W.heap.size := by
 have hk : ∀ k, k ≠ R → ((((w.setCell ⟨R, 0, none⟩ x).setCell ⟨R, 1, none⟩ y).setCell ⟨R, 2, none⟩ z).setCell ⟨R, 3, none⟩ u).heap[k]? = w.heap[k]? := fun k hk => (Below.heap_setCell _ ⟨R, 3, none⟩ u k hk).trans ((Below.heap_setCell _ ⟨R, 2, none⟩ z k hk).trans ((Below.heap_setCell _ ⟨R, 1, none⟩ y k hk).trans (Below.heap_setCell w ⟨R, 0, none⟩ x k hk)))
 exact ⟨_, rfl, ⟨by simpa using (((hR.set_ 0 x).set_ 1 y).set_ 2 z).set_ 3 u, fun v l h => h.keepBlk hR hcs hk (by simp [World.setCell]), fun g t' cs h hne => (((h.far (p := ⟨R, 0, none⟩) hne x).far (p := ⟨R, 1, none⟩) hne y).far (p := ⟨R, 2, none⟩) hne z).far (p := ⟨R, 3, none⟩) hne u, fun B w0 hBR hB => (((hB.setCell (p := ⟨R, 0, none⟩) hBR x).setCell (p := ⟨R, 1, none⟩) hBR y).setCell (p := ⟨R, 2, none⟩) hBR z).setCell (p := ⟨R, 3, none⟩) hBR u⟩, hk, by simp [World.setCell]⟩
theorem TypI.same {w W : World} {v : Value} {R : Nat} {t : TypeId} {cs : Array Value} (h : TypI w v) (hR : Blk w R t cs) (ht : t ≠ 2) (hk : ∀ k, k ≠ R → W.heap[k]? = w.heap[k]?) : TypI W v := by
 intro g e
 obtain ⟨cs', fr, hc⟩ := h g e
 refine ⟨cs', fr, (hk g (fun e2 => ?_)).trans hc⟩
 rw [e2, show w.heap[R]? = _ from hR] at hc
 injection hc with hc
 injection hc with _ hc
 exact ht hc
theorem fillThree {w : World} {R : Nat} {t : TypeId} {a b c : Value} (hR : Blk w R t #[a, b, c]) (x y z : Value) (hcs : (#[a, b, c] : Array Value).all noU = true) : ∃ W, W = ((w.setCell ⟨R, 0, none⟩ x).setCell ⟨R, 1, none⟩ y).setCell ⟨R, 2, none⟩ z ∧ Filled w W R t #[x, y, z] ∧ (∀ k, k ≠ R → W.heap[k]? = w.heap[k]?) ∧ w.heap.size ≤ W.heap.size := by
 obtain ⟨W, e, hf⟩ := fill3 hR x y z hcs
 subst e
 exact ⟨_, rfl, hf, fun k hk => (Below.heap_setCell _ ⟨R, 2, none⟩ z k hk).trans ((Below.heap_setCell _ ⟨R, 1, none⟩ y k hk).trans (Below.heap_setCell w ⟨R, 0, none⟩ x k hk)), by simp [World.setCell]⟩
theorem rat_ne_int : 32 ≠ 2 := by decide
theorem Core.fill {w W : World} {M4 K6 R9 O11 B S X : Nat} {t : TypeId} {cs mc kc qc rc : Array Value} {mq : Rat} {vr vb : Value} {rs bs : List Rat} (h : Core w M4 K6 R9 O11 B S mc kc qc rc mq vr vb rs bs) (hf : Filled w W X t cs)
   (hO : O11 < X) (hr : vr.ownBlock ≠ some X) (hb : vb.ownBlock ≠ some X) : Core W M4 K6 R9 O11 B S mc kc qc rc mq vr vb rs bs := by
 obtain ⟨f1, f2, f3, f4⟩ := hf
 obtain ⟨o1, o2, o3, o4, o5⟩ := h.ord
 exact ⟨f3 _ _ _ h.m (by omega), f3 _ _ _ h.k (by omega), f3 _ _ _ h.q (by omega), h.n.filled f2, f3 _ _ _ h.o (by omega), h.r.filled hr f2 f3, h.b.filled hb f2 f3, h.sep, h.ord⟩
theorem GoodAll.any {F j : Nat} {vs vs' Ms : List Int} {rs bs : List Rat} (h : GoodAll F j 0 vs Ms rs bs) : GoodAll F j 0 vs' Ms rs bs := fun i hi => by
 have := h i hi; rw [if_neg (by omega)] at this ⊢; exact this
theorem made_all {lr mu : Int} {nest : Bool} {F : Nat} {W M G : List Int} (e : stErr lr mu 0 nest (F : Int) W M G = 0) (iG : AllIn G) (hW : W.length = 2) :
   ∃ Wn Mn : List Int, Wn = (List.range W.length).map (plW lr mu 0 nest (F : Int).toNat W M G) ∧ Mn = (List.range W.length).map (plV mu 0 (F : Int).toNat W M G) ∧ Wn.length = 2 ∧ Mn.length = 2 ∧ AllIn Wn ∧ AllIn Mn ∧ ∀ i, i < 2 → iat Mn i = mulZ mu (iat M i) F + iat G i := by
 refine ⟨_, _, rfl, rfl, by simp [hW], by simp [hW], AllIn.of_mem fun x hx => ?_, AllIn.of_mem fun x hx => ?_, fun i hi => ?_⟩
 · obtain ⟨i, _, rfl⟩ := List.mem_map.1 hx
   exact fitV_in _
 · obtain ⟨i, _, rfl⟩ := List.mem_map.1 hx
   exact fitV_in _
 · rw [iat_map _ _ _ (by omega), Int.toNat_natCast]
   exact made_at e iG (by omega)
theorem ofE_or {k z m o : Int} {l : List Int} (h : l.length ≤ 4096) : ofE k z m o l = 0 ∨ ofE k z m o l = 1 := ofE_cases h
theorem rows_ne_int : 64 ≠ 2 := by decide
theorem kept_nil (k z m o : Int) (A : Option Addr) (C : Nat) (w : World) (h : IsI w (.slice A 0 C) []) :
   Calls Tryz.prog 45 #[.agg #[.int .i64 k, .int .i64 z, .int .i64 m, .int .i64 o], .slice A 0 C] w fun e w' => ∃ a b c, e = .returned (.tuple #[a, b, .bool c]) ∧ Below w.heap.size w w' := by
 rcases ofE_or (k := k) (z := z) (m := m) (o := o) (l := []) (by simp) with he | he
 · exact (kept_yes k z m o A C [] w h (by simp) (by simp) he).mono fun _ _ ⟨_, _, e, _, _, hB⟩ => ⟨_, _, _, e, hB⟩
 · exact (kept_no k z m o A C [] w h (by simp) he).mono fun _ _ ⟨e, hB⟩ => ⟨_, _, _, e, hB⟩
def pk (p : Int × Int) (k : Nat) : Int := if k = 0 then p.1 else p.2
theorem IsP.at_ {w : World} {A : Option Addr} {n c i : Nat} {ps : List (Int × Int)} (h : IsP w (.slice A n c) ps) {p : Int × Int} (hp : ps[i]? = some p) : ∃ ad, A = some ad ∧ w.cell? (ad.add (i * 2)) = some (.int .i64 p.1) ∧ w.cell? ⟨(ad.add (i * 2)).block, (ad.add (i * 2)).off + 1, none⟩ = some (.int .i64 p.2) ∧ ∀ k, k < 2 → w.cell? ((ad.add (i * 2)).add k) = some (.int .i64 (pk p k)) := by
 obtain ⟨A', c', e, _, _, r⟩ := h
 have hi := (List.getElem?_eq_some_iff.1 hp).1
 obtain ⟨ad, rfl, _, hc⟩ := r (by omega)
 obtain ⟨k1, k2⟩ := hc i p hp
 injection e with e1
 refine ⟨ad, e1, k1, ?_, fun k hk => ?_⟩
 · rw [← k2]
   generalize ad.add (i * 2) = q
   congr 1
 unfold pk
 rcases Nat.eq_zero_or_pos k with h0 | h0
 · subst h0; rw [if_pos rfl]
   simpa [Addr.add] using k1
 · obtain rfl : k = 1 := by omega
   rw [if_neg (by omega)]; exact k2
theorem add0 (g n : Nat) : (⟨g, 0, none⟩ : Addr).add n = ⟨g, n, none⟩ := by
 unfold Addr.add
 by_cases h : n = 0
 · rw [if_pos h, h]
 · rw [if_neg h, Nat.zero_add]
theorem iat_pk (p : Int × Int) (k : Nat) (h : k < 2) : iat [p.1, p.2] k = pk p k := by
 rcases Nat.eq_zero_or_pos k with h0 | h0
 · subst h0; rfl
 · obtain rfl : k = 1 := by omega
   rfl
theorem all_two {a b : Int} (ha : In64 a) (hb : In64 b) : AllIn [a, b] := AllIn.of_mem fun x hx => by
 rcases List.mem_cons.1 hx with rfl | hx
 · exact ha
 · obtain rfl := List.mem_singleton.1 hx; exact hb
set_option maxRecDepth 100000 in
set_option maxHeartbeats 8000000 in
theorem velocities_any (lr mu wd : Int) (nest : Bool) (k z m o : Int) (f : Nat) (G : Option Addr) (Gc : Nat) (ps : List (Int × Int)) (w : World) (hf : f ≤ 40) (ilr : In64 lr) (imu : In64 mu) (_iwd : In64 wd) (m0 : 0 ≤ mu) (m1 : mu ≤ ((2 ^ f : Nat) : Int)) (hp : IsP w (.slice G ps.length Gc) ps) (hps : ∀ p ∈ ps, I64 p.1 ∧ I64 p.2) (hl : ps.length ≤ 5) :
   Calls Tryz.prog 40 #[.agg #[.int .i64 lr, .int .i64 mu, .int .i64 wd, .bool nest], .int .i64 f, .agg #[.int .i64 k, .int .i64 z, .int .i64 m, .int .i64 o], .slice G ps.length Gc] w fun e w' => e = .returned (.bool true) ∧ Below w.heap.size w w' := by
 have hRt := fun w => rrat_any mu f w hf imu
 have smu := sz_man1 imu hf
 have hNo := fun w => noughts_any 2 (by omega) w
 rw [show ((2 : Nat) : Int) = 2 from rfl, show List.replicate 2 (0 : Rat) = [0, 0] from rfl] at hNo
 obtain ⟨mq, emq⟩ : ∃ q, q = mkRat mu (2 ^ f) := ⟨_, rfl⟩
 rw [← emq] at hRt smu
 have HMQ := Lib.hid emq
 clear emq
 obtain ⟨g, hg⟩ : ∃ g, g = w.heap.size := ⟨_, rfl⟩
 obtain ⟨Y0, eY0, h4, bY0⟩ := box1 w 79 #[.int .i64 lr, .int .i64 mu, .int .i64 wd, .bool nest]
 have zY0 : Y0.heap.size = g + 1 := by rw [eY0, World.size_alloc, ← hg]
 rw [← hg] at h4
 have hB := bY0
 obtain ⟨Y1, eY1, h6, bY1⟩ := box1 Y0 23 #[.int .i64 k, .int .i64 z, .int .i64 m, .int .i64 o]
 have zY1 : Y1.heap.size = g + 1 + 1 := by rw [eY1, World.size_alloc, zY0]
 rw [zY0] at h6
 replace h4 := h4.below bY1 h4.lt
 replace hB := hB.trans (bY1.mono hB.size)
 have hgw : w.heap.size ≤ g := by omega
 have EY := Lib.hid (And.intro hg (And.intro eY0 eY1))
 clear hg eY0 zY0 eY1 zY1
 obtain ⟨c0, c1, c2, c3⟩ := h4.q4
 obtain ⟨c4, c5, c6, c7⟩ := h6.q4
 go_enter Tryz.func40, Tryz.ntmps40
 go_wp2_with fail
 rw [← EY.out.2.1, ← EY.out.2.2, ← EY.out.1]
 refine (hRt _).mono ?_
 rintro e w2 ⟨v9, rfl, q9, b2⟩
 replace h4 := h4.below b2 h4.lt
 replace h6 := h6.below b2 h6.lt
 replace hB := hB.trans (b2.mono hB.size)
 clear c0 c1 c2 c3 c4 c5 c6 c7
 obtain ⟨c8, c9, c10, c11⟩ := h4.q4
 obtain ⟨c12, c13, c14, c15⟩ := h6.q4
 obtain ⟨s9, A9, L9, C9, D9, M9, E9, rfl, q9⟩ := q9.opn
 have t9 := h6.lt
 obtain ⟨V4, eV, h9, bV4⟩ := box1 w2 32 #[.bool s9, .slice A9 L9 C9, .slice D9 M9 E9]
 obtain ⟨X4, eX⟩ : ∃ X, X = w2.heap.size := ⟨_, rfl⟩
 rw [← eX] at h9
 have lX4 : w.heap.size ≤ X4 := by rw [eX]; exact hB.size
 have dX4_h4 : g ≠ X4 := by have := h4.lt; omega
 have dX4_h6 : g + 1 ≠ X4 := by have := h6.lt; omega
 have EV4 := Lib.hid (And.intro eV eX)
 clear eV eX
 go_upto_region 2 with fail
 rw [← EV4.out.1, ← EV4.out.2]
 replace h4 := h4.below bV4 h4.lt
 replace h6 := h6.below bV4 h6.lt
 replace q9 := q9.below bV4
 replace hB := hB.trans (bV4.mono hB.size)
 clear c8 c9 c10 c11 c12 c13 c14 c15
 obtain ⟨c16, c17, c18, c19⟩ := h4.q4
 obtain ⟨c20, c21, c22, c23⟩ := h6.q4
 obtain ⟨c24, c25, c26⟩ := h9.q3
 have o9 : g + 1 < X4 := by rw [EV4.out.2]; exact t9
 clear t9
 obtain ⟨X6, eX⟩ : ∃ X, X = V4.heap.size := ⟨_, rfl⟩
 have lX6 : w.heap.size ≤ X6 := by rw [eX]; exact hB.size
 have dX6_h4 : g < X6 := by have := h4.lt; omega
 have dX6_h6 : g + 1 < X6 := by have := h6.lt; omega
 have dX6_h9 : X4 < X6 := by have := h9.lt; omega
 obtain ⟨V6_0, eV0, hA1, bV0⟩ := box1 V4 2 #[.int .i64 0, .int .i64 0]
 have zV0 : V6_0.heap.size = X6 + 1 := by rw [eV0, World.size_alloc, ← eX]
 rw [← eX] at hA1
 replace h4 := h4.below bV0 h4.lt
 replace h6 := h6.below bV0 h6.lt
 replace q9 := q9.below bV0
 replace h9 := h9.below bV0 h9.lt
 replace hB := hB.trans (bV0.mono hB.size)
 obtain ⟨V6_1, eV1, hA2, bV1⟩ := box1 V6_0 2 #[.int .i64 0, .int .i64 0]
 have zV1 : V6_1.heap.size = X6 + 1 + 1 := by rw [eV1, World.size_alloc, zV0]
 rw [zV0] at hA2
 replace hA1 := hA1.below bV1 hA1.lt
 replace h4 := h4.below bV1 h4.lt
 replace h6 := h6.below bV1 h6.lt
 replace q9 := q9.below bV1
 replace h9 := h9.below bV1 h9.lt
 replace hB := hB.trans (bV1.mono hB.size)
 obtain ⟨V6_2, eV2, h11, bV2⟩ := box1 V6_1 64 #[.slice (some ⟨X6, 0, none⟩) 2 2, .slice (some ⟨X6 + 1, 0, none⟩) 2 2, .slice none 0 0, .slice none 0 0]
 have zV2 : V6_2.heap.size = X6 + 1 + 1 + 1 := by rw [eV2, World.size_alloc, zV1]
 rw [zV1] at h11
 replace hA1 := hA1.below bV2 hA1.lt
 replace hA2 := hA2.below bV2 hA2.lt
 replace h4 := h4.below bV2 h4.lt
 replace h6 := h6.below bV2 h6.lt
 replace q9 := q9.below bV2
 replace h9 := h9.below bV2 h9.lt
 replace hB := hB.trans (bV2.mono hB.size)
 have EV6 := Lib.hid (And.intro eX (And.intro eV0 (And.intro eV1 eV2)))
 clear eX eV0 zV0 eV1 zV1 eV2 zV2
 obtain ⟨c27, c28, c29, c30⟩ := h4.q4
 obtain ⟨c31, c32, c33, c34⟩ := h6.q4
 obtain ⟨c35, c36, c37⟩ := h9.q3
 obtain ⟨c38, c39⟩ := hA1.q2
 obtain ⟨c40, c41⟩ := hA2.q2
 obtain ⟨c42, c43, c44, c45⟩ := h11.q4
 go_upto_region 3 with fail
 rw [← EV6.out.1, ← EV6.out.2.1, ← EV6.out.2.2.1, ← EV6.out.2.2.2]
 obtain ⟨B, hBe⟩ : ∃ B, B = V6_2.heap.size := ⟨_, rfl⟩
 have oB : X6 + 1 + 1 < B := by rw [hBe]; exact h11.lt
 go_wp2_with fail
 refine (hNo _).mono ?_
 rintro e w8 ⟨v12, rfl, hr, b8⟩
 replace h4 := h4.below b8 h4.lt
 replace h6 := h6.below b8 h6.lt
 replace q9 := q9.below b8
 replace h9 := h9.below b8 h9.lt
 replace hA1 := hA1.below b8 hA1.lt
 replace hA2 := hA2.below b8 hA2.lt
 replace h11 := h11.below b8 h11.lt
 replace hB := hB.trans (b8.mono hB.size)
 clear c16 c17 c18 c19 c20 c21 c22 c23 c24 c25 c26 c27 c28 c29 c30 c31 c32 c33 c34 c35 c36 c37 c38 c39 c40 c41 c42 c43 c44 c45
 obtain ⟨c46, c47, c48, c49⟩ := h4.q4
 obtain ⟨c50, c51, c52, c53⟩ := h6.q4
 obtain ⟨c54, c55, c56⟩ := h9.q3
 obtain ⟨c57, c58⟩ := hA1.q2
 obtain ⟨c59, c60⟩ := hA2.q2
 obtain ⟨c61, c62, c63, c64⟩ := h11.q4
 rw [← hBe] at hr
 clear hBe
 obtain ⟨S, hSe⟩ : ∃ S, S = w8.heap.size := ⟨_, rfl⟩
 have sep : ∀ x, v12.ownBlock = some x → x < S := fun x hx => by rw [hSe]; exact (hr.lt x hx).2
 have oS : B ≤ S := by rw [hSe]; obtain ⟨_, _, _, _, _, _, _, _, _, _, l1, l2, _⟩ := hr.at0 (i := 0) (by simp); omega
 go_wp2_with fail
 refine (hNo _).mono ?_
 rintro e w10 ⟨v13, rfl, hb, b10⟩
 replace h4 := h4.below b10 h4.lt
 replace h6 := h6.below b10 h6.lt
 replace q9 := q9.below b10
 replace h9 := h9.below b10 h9.lt
 replace hA1 := hA1.below b10 hA1.lt
 replace hA2 := hA2.below b10 hA2.lt
 replace h11 := h11.below b10 h11.lt
 replace hr := hr.below b10
 replace hB := hB.trans (b10.mono hB.size)
 clear c46 c47 c48 c49 c50 c51 c52 c53 c54 c55 c56 c57 c58 c59 c60 c61 c62 c63 c64
 obtain ⟨c65, c66, c67, c68⟩ := h4.q4
 obtain ⟨c69, c70, c71, c72⟩ := h6.q4
 obtain ⟨c73, c74, c75⟩ := h9.q3
 obtain ⟨c76, c77⟩ := hA1.q2
 obtain ⟨c78, c79⟩ := hA2.q2
 obtain ⟨c80, c81, c82, c83⟩ := h11.q4
 rw [← hSe] at hb
 clear hSe hNo
 obtain ⟨gr, cr, _, _, _, _, _, _, _, er, grB, _⟩ := hr.at0 (i := 0) (by simp)
 obtain ⟨gb, cb, _, _, _, _, _, _, _, eb, gbS, gbl, _⟩ := hb.at0 (i := 0) (by simp)
 rw [show [(0 : Rat), 0].length = 2 from rfl] at er eb
 subst er
 subst eb
 have grS : gr < S := sep gr rfl
 have core : Core w10 g (g + 1) X4 (X6 + 1 + 1) B S #[.int .i64 lr, .int .i64 mu, .int .i64 wd, .bool nest] #[.int .i64 k, .int .i64 z, .int .i64 m, .int .i64 o] #[.bool s9, .slice A9 L9 C9, .slice D9 M9 E9] #[.slice (some ⟨X6, 0, none⟩) 2 2, .slice (some ⟨X6 + 1, 0, none⟩) 2 2, .slice none 0 0, .slice none 0 0] mq (.slice (some ⟨gr, 0, none⟩) 2 cr) (.slice (some ⟨gb, 0, none⟩) 2 cb) [0, 0] [0, 0] := ⟨h4, h6, h9, q9, h11, hr, hb, sep, by omega⟩
 have iW0 : IsI w10 (.slice (some ⟨X6, 0, none⟩) 2 2) [0, 0] := IArr.isI (l := [0, 0]) hA1 (by simp)
 have iM0 : IsI w10 (.slice (some ⟨X6 + 1, 0, none⟩) 2 2) [0, 0] := IArr.isI (l := [0, 0]) hA2 (by simp)
 have tW0 : TypI w10 (.slice (some ⟨X6, 0, none⟩) 2 2) := by
   intro x e
   obtain rfl : X6 = x := by simpa [Value.ownBlock] using e
   exact ⟨_, _, hA1⟩
 have tM0 : TypI w10 (.slice (some ⟨X6 + 1, 0, none⟩) 2 2) := by
   intro x e
   obtain rfl : X6 + 1 = x := by simpa [Value.ownBlock] using e
   exact ⟨_, _, hA2⟩
 have good0 : GoodAll f 0 0 [] [0, 0] [0, 0] [0, 0] := fun i hi => by
   rw [if_neg (by omega)]
   rcases Nat.eq_zero_or_pos i with h0 | h0
   · subst h0; exact Good.start f
   · obtain rfl : i = 1 := by omega
     exact Good.start f
 have gbW : gb < w10.heap.size := gbl
 have hBg : w.heap.size ≤ B := by omega
 clear gbl
 clear h4 h6 h9 q9 h11 hr hb hA1 hA2 sep
 go_wp2_with fail
 go_loopw [14] (fun iV wr => ∃ (j : Nat) (rs bs : List Rat) (AW AM AG : Option Addr) (CW CM nG CG : Nat) (Ws Ms : List Int), iV = .int .i64 j ∧ j ≤ ps.length ∧ rs.length = 2 ∧ bs.length = 2 ∧ Ws.length = 2 ∧ Ms.length = 2 ∧ AllIn Ws ∧ AllIn Ms ∧ GoodAll f j 0 [] Ms rs bs ∧ Core wr g (g + 1) X4 (X6 + 1 + 1) B S #[.int .i64 lr, .int .i64 mu, .int .i64 wd, .bool nest] #[.int .i64 k, .int .i64 z, .int .i64 m, .int .i64 o] #[.bool s9, .slice A9 L9 C9, .slice D9 M9 E9] #[.slice AW 2 CW, .slice AM 2 CM, .slice none 0 0, .slice AG nG CG] mq (.slice (some ⟨gr, 0, none⟩) 2 cr) (.slice (some ⟨gb, 0, none⟩) 2 cb) rs bs ∧ IsI wr (.slice AW 2 CW) Ws ∧ IsI wr (.slice AM 2 CM) Ms ∧ TypI wr (.slice AW 2 CW) ∧ TypI wr (.slice AM 2 CM) ∧ gb < wr.heap.size ∧ Below w.heap.size w wr) (fun iV _ => ps.length - (intOf iV).toNat)
 case atStart => exact ⟨0, [0, 0], [0, 0], _, _, _, _, _, _, _, [0, 0], [0, 0], rfl, Nat.zero_le _, rfl, rfl, rfl, rfl, all_two ⟨by omega, by omega⟩ ⟨by omega, by omega⟩, all_two ⟨by omega, by omega⟩ ⟨by omega, by omega⟩, good0, core, iW0, iM0, tW0, tM0, gbW, hB⟩
 case round =>
   clear core iW0 iM0 tW0 tM0 good0 gbW hB
   obtain ⟨j, rs, bs, AW, AM, AG, CW, CM, nG, CG, Ws, Ms, rfl, hj, lr2, lb2, lw2, lm2, aW, aM, good, core, iW, iM, tW, tM, gbl, hB⟩ := hrel
   by_cases hlt : j < ps.length; rotate_left
   · obtain rfl : j = ps.length := by omega
     go_wp2
     go_ret
     exact ⟨rfl, hB⟩
   obtain ⟨pp, hpp⟩ : ∃ p, ps[j]? = some p := ⟨_, List.getElem?_eq_getElem hlt⟩
   obtain ⟨ad, rfl, x0, x1, xk⟩ := (hp.below hB).at_ hpp
   obtain ⟨ip1, ip2⟩ := hps pp (List.mem_of_getElem? hpp)
   have iG : AllIn [pp.1, pp.2] := all_two ip1 ip2
   have i0 : (0 : Int) ≤ (j : Int) := by omega
   have i1 : (j : Int) < (ps.length : Int) := by omega
   have HPP := Lib.hid hpp
   clear xk hpp
   have core0 := Lib.hid core
   have LL := Lib.hid (And.intro lr2 (And.intro lb2 (And.intro lw2 lm2)))
   clear lr2 lb2 lw2 lm2
   go_upto_region 7 with fail
   replace hB := hB.drew
   replace core := core.below (bdrew _)
   replace iW := iW.below (bdrew _)
   replace iM := iM.below (bdrew _)
   replace tW := tW.below (bdrew _)
   replace tM := tM.below (bdrew _)
   replace x0 := cellAU (bdrew _) x0
   replace x1 := cellAU (bdrew _) x1
   refine wp_region_noPanic ?_
   refine wp_region_held_drew (S := fun w' => w'.cell? (ad.add (j * 2)) = some (.int .i64 pp.1) ∧ w'.cell? ⟨(ad.add (j * 2)).block, (ad.add (j * 2)).off + 1, none⟩ = some (.int .i64 pp.2)) (by kernel_rfl) ?_ (fun hHeld => ?_)
   · exact ⟨x0, x1⟩
   obtain ⟨wd7_1, hwd⟩ : ∃ q, q = wr.drew := ⟨_, rfl⟩
   rw [← hwd] at hB core iW iM tW tM x0 x1 hHeld ⊢
   clear hwd
   refine tkH 0 rfl (v := ?v1) ?h1 ?r1
   case h1 => intro w hSw; (try dsimp only at hSw); go_simp; try (with_reducible rfl)
   refine tkH 1 rfl (v := ?v2) ?h2 ?r2
   case h2 => intro w hSw; (try dsimp only at hSw); go_simp; try (with_reducible rfl)
   refine tkH 2 rfl (v := ?v3) ?h3 ?r3
   case h3 => intro w hSw; (try dsimp only at hSw); go_simp; try (with_reducible rfl)
   refine tkH 3 rfl (v := ?v4) ?h4 ?r4
   case h4 => intro w hSw; (try dsimp only at hSw); go_simp; try (with_reducible rfl)
   refine tkH 4 rfl (v := ?v5) ?h5 ?r5
   case h5 => intro w hSw; (try dsimp only at hSw); go_simp; try (with_reducible rfl)
   refine tkH 5 rfl (v := ?v6) ?h6 ?r6
   case h6 => intro w hSw; (try dsimp only at hSw); go_simp; try (with_reducible rfl)
   refine tkH 6 rfl (v := ?v7) ?h7 ?r7
   case h7 => intro w hSw; (try dsimp only at hSw); go_simp; try (with_reducible rfl)
   refine tkH 7 rfl (v := ?v8) ?h8 ?r8
   case h8 => intro w hSw; (try dsimp only at hSw); go_simp; try (with_reducible rfl)
   refine tkH 8 rfl (v := ?v9) ?h9 ?r9
   case h9 => intro w hSw; (try dsimp only at hSw); go_simp; try (with_reducible rfl)
   refine tkH 9 rfl (v := ?v10) ?h10 ?r10
   case h10 => intro w hSw; (try dsimp only at hSw); go_simp; try (with_reducible rfl)
   try simp only [Act.put, lay1, lay2, lay3, lay4, lay5, lay6]
   refine wpAnyH_ready (rs := [10]) (by kernel_rfl) (by simp) (AllReadyH.cons rfl (fun K hK => ?_) AllReadyH.nil)
   obtain ⟨u7_1, eu, hG, b7_1⟩ := box1 wd7_1 2 #[.int .i64 pp.1, .int .i64 pp.2]
   obtain ⟨XG, en⟩ : ∃ X, X = wd7_1.heap.size := ⟨_, rfl⟩
   rw [← en] at hG
   have lXG : w.heap.size ≤ XG := by rw [en]; exact hB.size
   have EUXG := Lib.hid (And.intro eu en)
   clear eu en
   go_simp
   rw [← EUXG.out.1, ← EUXG.out.2]
   replace core := core.below b7_1
   replace iW := iW.below b7_1
   replace iM := iM.below b7_1
   replace tW := tW.below b7_1
   replace tM := tM.below b7_1
   replace x0 := cellAU b7_1 x0
   replace x1 := cellAU b7_1 x1
   replace hB := hB.trans (b7_1.mono hB.size)
   refine hK.out _ _ ?_ (fun hHeld => ?_)
   · exact ⟨x0, x1⟩
   clear hK K
   refine tkH 11 rfl (v := ?v11) ?h11 ?r11
   case h11 => intro w hSw; (try dsimp only at hSw); go_simp; try (with_reducible rfl)
   try simp only [Act.put, lay1, lay2, lay3, lay4, lay5, lay6]
   refine wpAnyH_ready (rs := [12]) (by kernel_rfl) (by simp) (AllReadyH.cons rfl (fun K hK => ?_) AllReadyH.nil)
   have iG2 : IsI u7_1 (.slice (some ⟨XG, 0, none⟩) 2 2) [pp.1, pp.2] := IArr.isI (l := [pp.1, pp.2]) hG (by simp)
   obtain ⟨u7_2, eu, hf, hk, hs⟩ := fillLast core.o (.slice (some ⟨XG, 0, none⟩) 2 2) (by simp [noU])
   have xf := core.o.frozen
   have y0 := core.o.cell 0
   have y1 := core.o.cell 1
   have y2 := core.o.cell 2
   have y3 := core.o.cell 3
   go_simp
   rw [← eu]
   replace iG2 := iG2.keepBlk core.o (by simp [noI]) hk hs
   replace iW := iW.keepBlk core.o (by simp [noI]) hk hs
   replace iM := iM.keepBlk core.o (by simp [noI]) hk hs
   replace tW := tW.same core.o rows_ne_int hk
   replace tM := tM.same core.o rows_ne_int hk
   replace hB := hf.2.2.2 _ _ (by omega) hB
   replace core := core.rows hf
   clear eu hf hk hs xf y0 y1 y2 y3 hG x0 x1
   obtain ⟨ad', e', x0, x1, -⟩ := (hp.below hB).at_ HPP.out
   obtain rfl := Option.some.inj e'
   clear e' 
   refine hK.out _ _ ?_ (fun hHeld => ?_)
   · exact ⟨x0, x1⟩
   clear hK K
   try simp only [Act.put, lay1, lay2, lay3, lay4, lay5, lay6]
   try dsimp only
   try simp only [Act.put, lay1, lay2, lay3, lay4, lay5, lay6]
   refine wpAnyH_done (by kernel_rfl) ?_ _
   refine NoPanic.normal ?_
   skip
   have mk0 := core.m.cell 0
   have mk1 := core.m.cell 1
   have mk3 := core.m.cell 3
   obtain ⟨ok0, ok1, ok2, ok3⟩ := core.o.q4
   obtain ⟨lr2, lb2, lw2, lm2⟩ := LL.out
   by_cases he : stErr lr mu 0 nest (f : Int) Ws Ms [pp.1, pp.2] = 0; rotate_left
   · have hSa := fun w h => Step_all lr mu 0 f nest (.agg #[.slice AW 2 CW, .slice AM 2 CM, .slice none 0 0, .slice (some ⟨XG, 0, none⟩) 2 2]) Ws Ms [] [pp.1, pp.2] w h (by omega) ilr imu ⟨by omega, by omega⟩ aW aM iG
     rw [stWs_err he, stMs_err he] at hSa
     have hKx := fun A C w h => kept_nil k z m o A C w h
     generalize stErr lr mu 0 nest (f : Int) Ws Ms [pp.1, pp.2] = es at *
     have he1 : (es != 0) = true := by simpa using he
     have he2 : (es == 0) = false := by simpa using he
     have he3 : decide (es = 0) = false := decide_eq_false he
     clear he lr2 lb2 lw2 lm2
     go_wp2_with fail
     refine (hSa _ ⟨_, _, _, _, rfl, iW, iM, IsI.nil _, iG2⟩).mono ?_
     rintro e w14 ⟨r, rfl, ⟨va, vb, vc, vd, rfl, ja, jb, jc, jd⟩, b14⟩
     replace core := core.below b14
     replace iW := iW.below b14
     replace iM := iM.below b14
     replace tW := tW.below b14
     replace tM := tM.below b14
     replace iG2 := iG2.below b14
     replace hB := hB.trans (b14.mono hB.size)
     obtain ⟨A1, C1, rfl, _, _⟩ := id ja.form
     obtain ⟨A2, C2, rfl, _, _⟩ := id jb.form
     obtain ⟨A3, C3, rfl, _, _⟩ := id jc.form
     obtain ⟨A4, C4, rfl, _, _⟩ := id jd.form
     clear mk0 mk1 mk3 ok0 ok1 ok2 ok3
     obtain ⟨V16, eV, h15, bV16⟩ := box1 w14 64 #[.slice A1 0 C1, .slice A2 0 C2, .slice A3 0 C3, .slice A4 0 C4]
     obtain ⟨X16, eX⟩ : ∃ X, X = w14.heap.size := ⟨_, rfl⟩
     rw [← eX] at h15
     have lX16 : w.heap.size ≤ X16 := by rw [eX]; exact hB.size
     have EV16 := Lib.hid (And.intro eV eX)
     clear eV eX
     go_upto_region 9 with fail
     rw [← EV16.out.1, ← EV16.out.2]
     replace core := core.below bV16
     replace jb := jb.below bV16
     replace hB := hB.trans (bV16.mono hB.size)
     obtain ⟨c84, c85, c86, c87⟩ := h15.q4
     obtain ⟨kk0, kk1, kk2, kk3⟩ := core.k.q4
     go_wp2_with fail
     refine (hKx _ _ _ jb).mono ?_
     rintro e w18 ⟨va, vb, ok, rfl, b18⟩
     replace core := core.below b18
     replace jb := jb.below b18
     replace h15 := h15.below b18 h15.lt
     replace hB := hB.trans (b18.mono hB.size)
     clear c84 c85 c86 c87
     obtain ⟨c88, c89, c90, c91⟩ := h15.q4
     go_wp2
     go_ret
     exact ⟨rfl, hB⟩
   obtain ⟨Wn, Mn, eWn, eMn, lWn, lMn, aWn, aMn, eMs⟩ := made_all he iG lw2
   have hSk := fun w h => Step_ok lr mu 0 f nest (.agg #[.slice AW 2 CW, .slice AM 2 CM, .slice none 0 0, .slice (some ⟨XG, 0, none⟩) 2 2]) Ws Ms [] [pp.1, pp.2] w h (by omega) ilr imu ⟨by omega, by omega⟩ aW aM iG he
   rw [← eWn, ← eMn] at hSk
   have LN := Lib.hid (And.intro lr2 (And.intro lb2 (And.intro lWn lMn)))
   clear eWn eMn he lr2 lb2 lw2 lm2
   go_wp2_with fail
   refine (hSk _ ⟨_, _, _, _, rfl, iW, iM, IsI.nil _, iG2⟩).mono ?_
   rintro e w14 ⟨va, vb, rfl, ra, rb, b14⟩
   replace core := core.below b14
   replace iW := iW.below b14
   replace iM := iM.below b14
   replace tW := tW.below b14
   replace tM := tM.below b14
   replace iG2 := iG2.below b14
   replace hB := hB.trans (b14.mono hB.size)
   obtain ⟨ga, na, ea, hla, _, _⟩ := id ra
   obtain ⟨gm, nm, em, hlm, _, _⟩ := id rb
   rw [LN.out.2.2.1] at hla
   rw [LN.out.2.2.2] at hlm
   subst hla
   subst hlm
   subst ea
   subst em
   have iWn := ra.is
   have iMn := rb.is
   have tWn := TypI.of_arr ra
   clear ra rb mk0 mk1 mk3 ok0 ok1 ok2 ok3
   have g15 : gb < w14.heap.size := (core.b.lt gb rfl).2
   obtain ⟨V16, eV, h15, bV16⟩ := box1 w14 64 #[.slice (some ⟨ga, 0, none⟩) 2 2, .slice (some ⟨gm, 0, none⟩) 2 2, .slice none 0 0, .slice none 0 0]
   obtain ⟨X16, eX⟩ : ∃ X, X = w14.heap.size := ⟨_, rfl⟩
   rw [← eX] at h15
   have lX16 : w.heap.size ≤ X16 := by rw [eX]; exact hB.size
   have EV16 := Lib.hid (And.intro eV eX)
   clear eV eX
   go_upto_region 9 with fail
   rw [← EV16.out.1, ← EV16.out.2]
   replace core := core.below bV16
   replace iWn := iWn.below bV16
   replace iMn := iMn.below bV16
   replace tWn := tWn.below bV16
   replace hB := hB.trans (bV16.mono hB.size)
   obtain ⟨c84, c85, c86, c87⟩ := h15.q4
   replace g15 : gb < X16 := by rw [EV16.out.2]; exact g15
   obtain ⟨kk0, kk1, kk2, kk3⟩ := core.k.q4
   have iMn64 : ∀ x ∈ Mn, I64 x := fun x hx => aMn.mem hx
   have hMl : Mn.length ≤ 4000 := by have := LN.out.2.2.2; omega
   rcases ofE_or (k := k) (z := z) (m := m) (o := o) (l := Mn) (by omega) with hke | hke; rotate_left
   · have hKn := fun w h => kept_no k z m o (some ⟨gm, 0, none⟩) 2 Mn w h iMn64 hke
     rw [LN.out.2.2.2] at hKn
     clear hke iMn64 hMl
     go_wp2_with fail
     refine (hKn _ iMn).mono ?_
     rintro e w18 ⟨rfl, b18⟩
     replace core := core.below b18
     replace iWn := iWn.below b18
     replace iMn := iMn.below b18
     replace tWn := tWn.below b18
     replace h15 := h15.below b18 h15.lt
     replace hB := hB.trans (b18.mono hB.size)
     clear c84 c85 c86 c87
     obtain ⟨c88, c89, c90, c91⟩ := h15.q4
     go_wp2
     go_ret
     exact ⟨rfl, hB⟩
   have hKy := fun w h => kept_yes k z m o (some ⟨gm, 0, none⟩) 2 Mn w h iMn64 hMl hke
   have hnear := near_all hke
   obtain ⟨_, _, hld⟩ := few_of iMn64 hke
   have hqs : ∀ q ∈ quantS (bksTo k z m o Mn (partN z.toNat Mn.length)), BQ q 20 := fun q hq => sz_quant hld hq
   have hms := fun x hx => load_in iMn64 hke (x := x) hx
   rw [show ofS k z m o Mn = (k, z, m, o, (Mn.length : Int), bksTo k z m o Mn (partN z.toNat Mn.length)) from if_pos hke] at hms
   simp only at hms
   generalize loadS (bksTo k z m o Mn (partN z.toNat Mn.length)) = ms at *
   generalize quantS (bksTo k z m o Mn (partN z.toNat Mn.length)) = qs at *
   obtain ⟨lms, lqs, -⟩ := id hnear
   rw [LN.out.2.2.2] at hKy lms lqs
   rw [lms] at hKy
   have LM := Lib.hid (And.intro lms lqs)
   clear hke hld iMn64 hMl lms lqs
   have gQ : gb < V16.heap.size := (core.b.lt gb rfl).2
   obtain ⟨Q, hQe⟩ : ∃ Q, Q = V16.heap.size := ⟨_, rfl⟩
   rw [← hQe] at gQ
   go_wp2_with fail
   refine (hKy _ iMn).mono ?_
   rintro e w18 ⟨vm, vq, rfl, om, oq, b18⟩
   replace core := core.below b18
   replace iWn := iWn.below b18
   replace iMn := iMn.below b18
   replace tWn := tWn.below b18
   replace h15 := h15.below b18 h15.lt
   replace hB := hB.trans (b18.mono hB.size)
   clear c84 c85 c86 c87
   obtain ⟨c88, c89, c90, c91⟩ := h15.q4
   rw [← hQe] at om oq
   clear hQe
   obtain ⟨gq, cq, _, _, _, _, _, _, _, eq, gqQ, gql, _⟩ := oq.at0 (i := 0) (by have := LM.out.2; omega)
   rw [LM.out.2] at eq
   subst eq
   obtain ⟨Am, Cm, rfl, _, _, _⟩ := own_form om
   have iv : IsI _ _ ms := IsI.of_own (by rw [LM.out.1]; exact om)
   have tv := TypI.of_own om
   clear om kk0 kk1 kk2 kk3
   obtain ⟨lr2, lb2, -, -⟩ := LN.out
   have good1 : GoodAll f j 0 ms Ms rs bs := good.any
   clear c88 c89 c90 c91
   go_wp2_with fail
   go_loopw [20] (fun kV wi => ∃ (kk : Nat) (rs bs : List Rat), kV = .int .i64 kk ∧ kk ≤ 2 ∧ rs.length = 2 ∧ bs.length = 2 ∧ GoodAll f j kk ms Ms rs bs ∧ Core wi g (g + 1) X4 (X6 + 1 + 1) B S #[.int .i64 lr, .int .i64 mu, .int .i64 wd, .bool nest] #[.int .i64 k, .int .i64 z, .int .i64 m, .int .i64 o] #[.bool s9, .slice A9 L9 C9, .slice D9 M9 E9] #[.slice AW 2 CW, .slice AM 2 CM, .slice none 0 0, .slice (some ⟨XG, 0, none⟩) 2 2] mq (.slice (some ⟨gr, 0, none⟩) 2 cr) (.slice (some ⟨gb, 0, none⟩) 2 cb) rs bs ∧ Blk wi X16 64 #[.slice (some ⟨ga, 0, none⟩) 2 2, .slice (some ⟨gm, 0, none⟩) 2 2, .slice none 0 0, .slice none 0 0] ∧ IsI wi (.slice (some ⟨ga, 0, none⟩) 2 2) Wn ∧ TypI wi (.slice (some ⟨ga, 0, none⟩) 2 2) ∧ IsI wi (.slice Am 2 Cm) ms ∧ TypI wi (.slice Am 2 Cm) ∧ OwnQs wi Q (.slice (some ⟨gq, 0, none⟩) 2 cq) qs ∧ Below w.heap.size w wi) (fun kV _ => 2 - (intOf kV).toNat)
   case atStart => exact ⟨0, rs, bs, rfl, by omega, lr2, lb2, good1, core, h15, iWn, tWn, iv, tv, oq, hB⟩
   case round =>
     clear core h15 iWn tWn iv tv oq hB good good1 lr2 lb2
     obtain ⟨kk, rs, bs, rfl, hk, lr2, lb2, good, core, h15, iWn, tWn, iv, tv, oq, hB⟩ := hrel
     by_cases hk2 : kk < 2; rotate_left
     · obtain rfl : kk = 2 := by omega
       obtain ⟨W21, eW, hf2, hk', hs⟩ := fillFour core.o (.slice (some ⟨ga, 0, none⟩) 2 2) (.slice Am 2 Cm) (.slice none 0 0) (.slice none 0 0) (by simp [noU])
       have xf := core.o.frozen
       obtain ⟨y0, y1, y2, y3⟩ := core.o.q4
       obtain ⟨l0, l1, l2, l3⟩ := h15.q4
       go_upto_region 6 with fail
       rw [← eW]
       replace iWn := iWn.keepBlk core.o (by simp [noI]) hk' hs
       replace iv := iv.keepBlk core.o (by simp [noI]) hk' hs
       replace tWn := tWn.same core.o rows_ne_int hk'
       replace tv := tv.same core.o rows_ne_int hk'
       replace hB := hf2.2.2.2 _ _ (by omega) hB
       replace core := core.rows hf2
       have gl := (core.b.lt gb rfl).2
       have ams : AllIn ms := AllIn.of_mem hms
       have lms := LM.out.1
       have lWn := LN.out.2.2.1
       have HG := Lib.hid (good.next (Xs := []))
       clear eW hf2 hk' hs xf y0 y1 y2 y3 l0 l1 l2 l3 h15 oq good
       go_wp2
       exact ⟨⟨j + 1, rs, bs, _, _, _, _, _, _, _, Wn, ms, by go_num, by omega, lr2, lb2, lWn, lms, aWn, ams, HG.out, core, iWn, iv, tWn, tv, gl, hB⟩, by simp [intOf]; omega⟩
     obtain ⟨ad', e', -, -, xk⟩ := (hp.below hB).at_ HPP.out
     obtain rfl := Option.some.inj e'
     clear e'
     replace xk := xk kk hk2
     have g0 := good.at_ hk2
     obtain ⟨s0, s1⟩ := g0.small4 (by omega)
     obtain ⟨q0, kq⟩ := kept_at hnear (i := kk) (by have := LN.out.2.2.2; omega)
     have sq : BQ (qat qs kk) 20 := by rw [← qat_at (by have := LM.out.2; omega)]; exact hqs _ (List.getElem_mem _)
     rw [eMs kk hk2, iat_pk pp kk hk2] at kq
     have ipk : In64 (pk pp kk) := by unfold pk; split <;> assumption
     have im : In64 (iat ms kk) := hms _ (iat_mem (by have := LM.out.1; omega))
     have g1 := g0.step hf imu ipk m0 kq q0 sq
     obtain ⟨t0, t1⟩ := g1.small (by omega)
     have b0 := g0.1
     rw [← HMQ.out] at g1 t0
     have hRk := fun w => rrat_any (pk pp kk) f w hf ipk
     have spk := sz_man1 ipk hf
     generalize mkRat (pk pp kk) (2 ^ f) = ry at *
     have hMu := fun u v w hu hv => rqmul_any u v mq (qat rs kk) w hu hv (smu.more (by omega)) (s0.more (by omega))
     have hAd := fun u v w hu hv => rqadd_any u v (mq * qat rs kk) ry w hu hv ((smu.mul s0).more (by omega)) (spk.more (by omega))
     have hHf := fun w => rhalf_any 1 w ⟨by omega, by omega⟩
     have shf := half_sz 1 ⟨by omega, by omega⟩
     have hA2 := fun u v w hu hv => rqadd_any u v (qat qs kk) (mkRat 1 2) w hu hv (sq.more (by omega)) (shf.more (by omega))
     have hNx := fun u v w hu hv => pnext_any mu f u v (qat bs kk) (qat qs kk + mkRat 1 2) w hf imu m0 m1 hu hv (s1.more (by omega)) ((sq.add shf).more (by omega)) (decide_eq_false (by rw [num_neg_iff, Rat.not_lt]; exact b0)) (decide_eq_false (by rw [num_neg_iff, Rat.not_lt]; exact Rat.add_nonneg q0 (half_pos 1 (by omega))))
     have hSt := fun u w hu => rsteps_any (iat ms kk) f u (mq * qat rs kk + ry) w hf im hu (t0.more (by omega))
     have sst := sz_steps im hf t0
     have hCm := fun u v w hu hv => rqcmp_any u v (stepsQ (iat ms kk) f (mq * qat rs kk + ry)) (nextQ mu f (qat bs kk) (qat qs kk + mkRat 1 2)) w hu hv (sst.more (by omega)) (t1.more (by omega))
     have hcm := (cmpQ_le_iff _ _).2 g1.2.1
     have GS := Lib.hid g1
     generalize hrn : mq * qat rs kk + ry = rn at *
     generalize mq * qat rs kk = rp at *
     generalize nextQ mu f (qat bs kk) (qat qs kk + mkRat 1 2) = bn at *
     generalize qat qs kk + mkRat 1 2 = rq2 at *
     generalize mkRat 1 2 = rh at *
     generalize cmpQ (stepsQ (iat ms kk) f rn) bn = cm at *
     generalize stepsQ (iat ms kk) f rn = rst at *
     generalize pk pp kk = pv at *
     have hcm2 : decide (0 < cm) = false := decide_eq_false (by omega)
     have k0 : (0 : Int) ≤ (kk : Int) := by omega
     have k1 : (kk : Int) < 2 := by omega
     have GG := Lib.hid good
     clear g0 s0 s1 q0 kq sq ipk im g1 t0 t1 b0 spk shf sst hrn hcm good hnear hqs hms
     go_wp2_with fail
     refine (hRk _).mono ?_
     rintro e w20 ⟨v21, rfl, q21, b20⟩
     replace core := core.below b20
     replace iWn := iWn.below b20
     replace tWn := tWn.below b20
     replace h15 := h15.below b20 h15.lt
     replace oq := oq.below b20
     replace iv := iv.below b20
     replace tv := tv.below b20
     replace xk := cellAU b20 xk
     replace hB := hB.trans (b20.mono hB.size)
     obtain ⟨c92, c93, c94, c95⟩ := h15.q4
     obtain ⟨s21, A21, L21, C21, D21, M21, E21, rfl, q21⟩ := q21.opn
     clear xk
     have g21 : gb < w20.heap.size := (core.b.lt gb rfl).2
     obtain ⟨V22, eV, h21, bV22⟩ := box1 w20 32 #[.bool s21, .slice A21 L21 C21, .slice D21 M21 E21]
     obtain ⟨X22, eX⟩ : ∃ X, X = w20.heap.size := ⟨_, rfl⟩
     rw [← eX] at h21
     have lX22 : w.heap.size ≤ X22 := by rw [eX]; exact hB.size
     have dX22_h15 : X16 ≠ X22 := by have := h15.lt; omega
     have EV22 := Lib.hid (And.intro eV eX)
     clear eV eX
     go_upto_region 16 with fail
     rw [← EV22.out.1, ← EV22.out.2]
     replace core := core.below bV22
     replace iWn := iWn.below bV22
     replace tWn := tWn.below bV22
     replace h15 := h15.below bV22 h15.lt
     replace oq := oq.below bV22
     replace iv := iv.below bV22
     replace tv := tv.below bV22
     replace q21 := q21.below bV22
     replace hB := hB.trans (bV22.mono hB.size)
     clear c92 c93 c94 c95
     obtain ⟨c96, c97, c98, c99⟩ := h15.q4
     obtain ⟨c100, c101, c102⟩ := h21.q3
     replace g21 : gb < X22 := by rw [EV22.out.2]; exact g21
     obtain ⟨n0, n1, n2⟩ := core.q.q3
     obtain ⟨gr', cr', s22, A22, L22, C22, D22, M22, E22, er, _, _, r0, r1, r2, qr⟩ := core.r.at0 (i := kk) (by omega)
     obtain rfl : gr = gr' := by injection er with e1; injection e1 with e1; injection e1
     rw [qat_at] at qr
     have ha1 := add0 gr (kk * 3)
     clear er
     replace hB := hB.drew
     replace core := core.below (bdrew _)
     replace iWn := iWn.below (bdrew _)
     replace tWn := tWn.below (bdrew _)
     replace h15 := h15.drew
     replace oq := oq.below (bdrew _)
     replace iv := iv.below (bdrew _)
     replace tv := tv.below (bdrew _)
     replace q21 := q21.below (bdrew _)
     replace h21 := h21.drew
     replace n0 := cellAU (bdrew _) n0
     replace n1 := cellAU (bdrew _) n1
     replace n2 := cellAU (bdrew _) n2
     replace r0 := cellAU (bdrew _) r0
     replace r1 := cellAU (bdrew _) r1
     replace r2 := cellAU (bdrew _) r2
     replace qr := qr.below (bdrew _)
     clear c96 c97 c98 c99 c100 c101 c102
     refine wp_region_noPanic ?_
     refine wp_region_held_drew (S := fun w' => w'.cell? ⟨X4, 0, none⟩ = some (.bool s9) ∧ w'.cell? ⟨X4, 1, none⟩ = some (.slice A9 L9 C9) ∧ w'.cell? ⟨X4, 2, none⟩ = some (.slice D9 M9 E9) ∧ w'.cell? ⟨X22, 0, none⟩ = some (.bool s21) ∧ w'.cell? ⟨X22, 1, none⟩ = some (.slice A21 L21 C21) ∧ w'.cell? ⟨X22, 2, none⟩ = some (.slice D21 M21 E21)) (by kernel_rfl) ?_ (fun hHeld => ?_)
     · exact ⟨n0, n1, n2, h21.cell 0, h21.cell 1, h21.cell 2⟩
     obtain ⟨wd16_2, hwd⟩ : ∃ q, q = V22.drew := ⟨_, rfl⟩
     rw [← hwd] at hB core iWn tWn h15 oq iv tv q21 h21 n0 n1 n2 r0 r1 r2 qr hHeld ⊢
     clear hwd
     refine tkH 0 rfl (v := ?v12) ?h12 ?r12
     case h12 => intro w hSw; (try dsimp only at hSw); go_simp; try (with_reducible rfl)
     refine tkH 1 rfl (v := ?v13) ?h13 ?r13
     case h13 => intro w hSw; (try dsimp only at hSw); go_simp; try (with_reducible rfl)
     refine tkH 2 rfl (v := ?v14) ?h14 ?r14
     case h14 => intro w hSw; (try dsimp only at hSw); go_simp; try (with_reducible rfl)
     refine tkH 3 rfl (v := ?v15) ?h15 ?r15
     case h15 => intro w hSw; (try dsimp only at hSw); go_simp; try (with_reducible rfl)
     refine tkH 4 rfl (v := ?v16) ?h16 ?r16
     case h16 => intro w hSw; (try dsimp only at hSw); go_simp; try (with_reducible rfl)
     refine tkH 5 rfl (v := ?v17) ?h17 ?r17
     case h17 => intro w hSw; (try dsimp only at hSw); go_simp; try (with_reducible rfl)
     refine tkH 8 rfl (v := ?v18) ?h18 ?r18
     case h18 => intro w hSw; (try dsimp only at hSw); go_simp; try (with_reducible rfl)
     try simp only [Act.put, lay1, lay2, lay3, lay4, lay5, lay6]
     refine wpAnyH_ready (rs := [6]) (by kernel_rfl) (by simp) (AllReadyH.cons rfl (fun K hK => ?_) AllReadyH.nil)
     go_simp
     refine hK.out _ _ ?_ (fun hHeld => ?_)
     · exact ⟨n0, n1, n2, h21.cell 0, h21.cell 1, h21.cell 2⟩
     clear hK K
     try simp only [Act.put, lay1, lay2, lay3, lay4, lay5, lay6]
     refine wpAnyH_ready (rs := [7]) (by kernel_rfl) (by simp) (AllReadyH.cons rfl (fun K hK => ?_) AllReadyH.nil)
     go_simp
     refine (hMu _ _ _ core.n qr).mono ?_
     rintro e u16_2 ⟨v23, rfl, q23, b16_2⟩
     replace core := core.below b16_2
     replace iWn := iWn.below b16_2
     replace tWn := tWn.below b16_2
     replace h15 := h15.below b16_2 h15.lt
     replace oq := oq.below b16_2
     replace iv := iv.below b16_2
     replace tv := tv.below b16_2
     replace q21 := q21.below b16_2
     replace h21 := h21.below b16_2 h21.lt
     replace n0 := cellAU b16_2 n0
     replace n1 := cellAU b16_2 n1
     replace n2 := cellAU b16_2 n2
     replace r0 := cellAU b16_2 r0
     replace r1 := cellAU b16_2 r1
     replace r2 := cellAU b16_2 r2
     replace qr := qr.below b16_2
     replace hB := hB.trans (b16_2.mono hB.size)
     obtain ⟨s23, A23, L23, C23, D23, M23, E23, rfl, q23⟩ := q23.opn
     go_wp2_with fail
     refine hK.out _ _ ?_ (fun hHeld => ?_)
     · exact ⟨n0, n1, n2, h21.cell 0, h21.cell 1, h21.cell 2⟩
     clear hK K
     try simp only [Act.put, lay1, lay2, lay3, lay4, lay5, lay6]
     refine wpAnyH_ready (rs := [9]) (by kernel_rfl) (by simp) (AllReadyH.cons rfl (fun K hK => ?_) AllReadyH.nil)
     go_simp
     refine (hAd _ _ _ q23 q21).mono ?_
     rintro e u16_3 ⟨v24, rfl, q24, b16_3⟩
     replace core := core.below b16_3
     replace iWn := iWn.below b16_3
     replace tWn := tWn.below b16_3
     replace h15 := h15.below b16_3 h15.lt
     replace oq := oq.below b16_3
     replace iv := iv.below b16_3
     replace tv := tv.below b16_3
     replace q21 := q21.below b16_3
     replace h21 := h21.below b16_3 h21.lt
     replace n0 := cellAU b16_3 n0
     replace n1 := cellAU b16_3 n1
     replace n2 := cellAU b16_3 n2
     replace r0 := cellAU b16_3 r0
     replace r1 := cellAU b16_3 r1
     replace r2 := cellAU b16_3 r2
     replace qr := qr.below b16_3
     replace q23 := q23.below b16_3
     replace hB := hB.trans (b16_3.mono hB.size)
     obtain ⟨s24, A24, L24, C24, D24, M24, E24, rfl, q24⟩ := q24.opn
     go_wp2_with fail
     refine hK.out _ _ ?_ (fun hHeld => ?_)
     · exact ⟨n0, n1, n2, h21.cell 0, h21.cell 1, h21.cell 2⟩
     clear hK K
     refine tkH 10 rfl (v := ?v19) ?h19 ?r19
     case h19 => intro w hSw; (try dsimp only at hSw); go_simp; try (with_reducible rfl)
     try simp only [Act.put, lay1, lay2, lay3, lay4, lay5, lay6]
     refine wpAnyH_ready (rs := [11]) (by kernel_rfl) (by simp) (AllReadyH.cons rfl (fun K hK => ?_) AllReadyH.nil)
     obtain ⟨gr', cr', er, hgB, hgS, hfz, hcl, u16_4, eu, core', hmv⟩ := core.putR (i := kk) (by omega) q24
     obtain rfl : gr = gr' := by injection er with e1; injection e1 with e1; injection e1
     have f0 := hfz (kk * 3)
     have f1 := hfz (kk * 3 + 1)
     have f2 := hfz (kk * 3 + 2)
     clear er hfz hcl
     go_simp
     rw [← eu]
     replace h15 := h15.moved hmv (by omega)
     replace iWn := iWn.moved tWn hmv
     replace tWn := tWn.moved hmv
     replace iv := iv.moved tv hmv
     replace tv := tv.moved hmv
     replace oq := oq.moved hmv (fun e => absurd (show gq = gr by injection e) (by omega))
     replace h21 := h21.moved hmv (by omega)
     replace q21 := q21.moved hmv
     replace q24 := q24.moved hmv
     replace hB := hB.grown hmv.1 hB.size (fun x e => by injection e with e; omega)
     replace core := core'
     clear core' hmv eu f0 f1 f2 r0 r1 r2 qr q23 hgB hgS
     obtain ⟨n0, n1, n2⟩ := core.q.q3
     refine hK.out _ _ ?_ (fun hHeld => ?_)
     · exact ⟨n0, n1, n2, h21.cell 0, h21.cell 1, h21.cell 2⟩
     clear hK K
     try simp only [Act.put, lay1, lay2, lay3, lay4, lay5, lay6]
     try dsimp only
     try simp only [Act.put, lay1, lay2, lay3, lay4, lay5, lay6]
     refine wpAnyH_done (by kernel_rfl) ?_ _
     refine NoPanic.normal ?_
     skip
     obtain ⟨c103, c104, c105, c106⟩ := h15.q4
     obtain ⟨c107, c108, c109⟩ := h21.q3
     obtain ⟨gb', cb', s28, A28, L28, C28, D28, M28, E28, er, _, _, b0, b1, b2, qb⟩ := core.b.at0 (i := kk) (by omega)
     obtain rfl : gb = gb' := by injection er with e1; injection e1 with e1; injection e1
     rw [qat_at] at qb
     clear er
     obtain ⟨gq', cq', s29, A29, L29, C29, D29, M29, E29, er, _, _, u0, u1, u2, qq⟩ := oq.at0 (i := kk) (by have := LM.out.2; omega)
     obtain rfl : gq = gq' := by injection er with e1; injection e1 with e1; injection e1
     rw [qat_at] at qq
     clear er
     have mc1 := core.m.cell 1
     have ha2 := add0 gb (kk * 3)
     have ha3 := add0 gq (kk * 3)
     go_upto_region 17 with fail
     replace hB := hB.drew
     replace core := core.below (bdrew _)
     replace iWn := iWn.below (bdrew _)
     replace tWn := tWn.below (bdrew _)
     replace h15 := h15.drew
     replace oq := oq.below (bdrew _)
     replace iv := iv.below (bdrew _)
     replace tv := tv.below (bdrew _)
     replace mc1 := cellAU (bdrew _) mc1
     replace b0 := cellAU (bdrew _) b0
     replace b1 := cellAU (bdrew _) b1
     replace b2 := cellAU (bdrew _) b2
     replace u0 := cellAU (bdrew _) u0
     replace u1 := cellAU (bdrew _) u1
     replace u2 := cellAU (bdrew _) u2
     replace qb := qb.below (bdrew _)
     replace qq := qq.below (bdrew _)
     clear c103 c104 c105 c106 c107 c108 c109
     go_cut [23, 24] (fun s23 s24 wx => ∃ XE s27 A27 L27 C27 D27 M27 E27, s23 = .pointer (some ⟨XE, 0, none⟩) ∧ s24 = .int .i64 0 ∧ Core wx g (g + 1) X4 (X6 + 1 + 1) B S #[.int .i64 lr, .int .i64 mu, .int .i64 wd, .bool nest] #[.int .i64 k, .int .i64 z, .int .i64 m, .int .i64 o] #[.bool s9, .slice A9 L9 C9, .slice D9 M9 E9] #[.slice AW 2 CW, .slice AM 2 CM, .slice none 0 0, .slice (some ⟨XG, 0, none⟩) 2 2] mq (.slice (some ⟨gr, 0, none⟩) 2 cr) (.slice (some ⟨gb, 0, none⟩) 2 cb) (rs.set kk rn) bs ∧ IsI wx (.slice (some ⟨ga, 0, none⟩) 2 2) Wn ∧ TypI wx (.slice (some ⟨ga, 0, none⟩) 2 2) ∧ Blk wx X16 64 #[.slice (some ⟨ga, 0, none⟩) 2 2, .slice (some ⟨gm, 0, none⟩) 2 2, .slice none 0 0, .slice none 0 0] ∧ OwnQs wx Q (.slice (some ⟨gq, 0, none⟩) 2 cq) qs ∧ IsI wx (.slice Am 2 Cm) ms ∧ TypI wx (.slice Am 2 Cm) ∧ IsQ wx (.agg #[.bool s27, .slice A27 L27 C27, .slice D27 M27 E27]) bn ∧ Blk wx XE 32 #[.bool s27, .slice A27 L27 C27, .slice D27 M27 E27] ∧ Below w.heap.size w wx ∧ w.heap.size ≤ XE ∧ X16 ≠ XE)
     case first =>
       refine wp_region_noPanic ?_
       refine wp_region_held_drew (S := fun w' => w'.cell? ⟨g, 1, none⟩ = some (.int .i64 mu) ∧ w'.cell? ⟨gb, kk * 3, none⟩ = some (.bool s28) ∧ w'.cell? ⟨gb, kk * 3 + 1, none⟩ = some (.slice A28 L28 C28) ∧ w'.cell? ⟨gb, kk * 3 + 2, none⟩ = some (.slice D28 M28 E28) ∧ w'.cell? ⟨gq, kk * 3, none⟩ = some (.bool s29) ∧ w'.cell? ⟨gq, kk * 3 + 1, none⟩ = some (.slice A29 L29 C29) ∧ w'.cell? ⟨gq, kk * 3 + 2, none⟩ = some (.slice D29 M29 E29)) (by kernel_rfl) ?_ (fun hHeld => ?_)
       · exact ⟨mc1, b0, b1, b2, u0, u1, u2⟩
       obtain ⟨wd17_3, hwd⟩ : ∃ q, q = u16_4.drew := ⟨_, rfl⟩
       rw [← hwd] at hB core iWn tWn h15 oq iv tv mc1 b0 b1 b2 u0 u1 u2 qb qq hHeld ⊢
       clear hwd
       refine tkH 0 rfl (v := ?v20) ?h20 ?r20
       case h20 => intro w hSw; (try dsimp only at hSw); go_simp; try (with_reducible rfl)
       refine tkH 1 rfl (v := ?v21) ?h21 ?r21
       case h21 => intro w hSw; (try dsimp only at hSw); go_simp; try (with_reducible rfl)
       refine tkH 2 rfl (v := ?v22) ?h22 ?r22
       case h22 => intro w hSw; (try dsimp only at hSw); go_simp; try (with_reducible rfl)
       refine tkH 3 rfl (v := ?v23) ?h23 ?r23
       case h23 => intro w hSw; (try dsimp only at hSw); go_simp; try (with_reducible rfl)
       refine tkH 4 rfl (v := ?v24) ?h24 ?r24
       case h24 => intro w hSw; (try dsimp only at hSw); go_simp; try (with_reducible rfl)
       refine tkH 5 rfl (v := ?v25) ?h25 ?r25
       case h25 => intro w hSw; (try dsimp only at hSw); go_simp; try (with_reducible rfl)
       refine tkH 6 rfl (v := ?v26) ?h26 ?r26
       case h26 => intro w hSw; (try dsimp only at hSw); go_simp; try (with_reducible rfl)
       refine tkH 7 rfl (v := ?v27) ?h27 ?r27
       case h27 => intro w hSw; (try dsimp only at hSw); go_simp; try (with_reducible rfl)
       refine tkH 8 rfl (v := ?v28) ?h28 ?r28
       case h28 => intro w hSw; (try dsimp only at hSw); go_simp; try (with_reducible rfl)
       refine tkH 9 rfl (v := ?v29) ?h29 ?r29
       case h29 => intro w hSw; (try dsimp only at hSw); go_simp; try (with_reducible rfl)
       refine tkH 10 rfl (v := ?v30) ?h30 ?r30
       case h30 => intro w hSw; (try dsimp only at hSw); go_simp; try (with_reducible rfl)
       try simp only [Act.put, lay1, lay2, lay3, lay4, lay5, lay6]
       refine wpAnyH_ready (rs := [11, 17]) (by kernel_rfl) (by simp) (AllReadyH.cons rfl (fun K hK => ?_) (AllReadyH.cons rfl (fun K hK => ?_) AllReadyH.nil))
       · go_simp
         refine (hHf _).mono ?_
         rintro e u17_1 ⟨v25, rfl, q25, b17_1⟩
         replace core := core.below b17_1
         replace iWn := iWn.below b17_1
         replace tWn := tWn.below b17_1
         replace h15 := h15.below b17_1 h15.lt
         replace oq := oq.below b17_1
         replace iv := iv.below b17_1
         replace tv := tv.below b17_1
         replace mc1 := cellAU b17_1 mc1
         replace b0 := cellAU b17_1 b0
         replace b1 := cellAU b17_1 b1
         replace b2 := cellAU b17_1 b2
         replace u0 := cellAU b17_1 u0
         replace u1 := cellAU b17_1 u1
         replace u2 := cellAU b17_1 u2
         replace qb := qb.below b17_1
         replace qq := qq.below b17_1
         replace hB := hB.trans (b17_1.mono hB.size)
         obtain ⟨s25, A25, L25, C25, D25, M25, E25, rfl, q25⟩ := q25.opn
         go_wp2_with fail
         refine hK.out _ _ ?_ (fun hHeld => ?_)
         · exact ⟨mc1, b0, b1, b2, u0, u1, u2⟩
         clear hK K
         try simp only [Act.put, lay1, lay2, lay3, lay4, lay5, lay6]
         refine wpAnyH_ready (rs := [12, 17]) (by kernel_rfl) (by simp) (AllReadyH.cons rfl (fun K hK => ?_) (AllReadyH.cons rfl (fun K hK => ?_) AllReadyH.nil))
         · go_simp
           refine (hA2 _ _ _ qq q25).mono ?_
           rintro e u17_2 ⟨v26, rfl, q26, b17_2⟩
           replace core := core.below b17_2
           replace iWn := iWn.below b17_2
           replace tWn := tWn.below b17_2
           replace h15 := h15.below b17_2 h15.lt
           replace oq := oq.below b17_2
           replace iv := iv.below b17_2
           replace tv := tv.below b17_2
           replace mc1 := cellAU b17_2 mc1
           replace b0 := cellAU b17_2 b0
           replace b1 := cellAU b17_2 b1
           replace b2 := cellAU b17_2 b2
           replace u0 := cellAU b17_2 u0
           replace u1 := cellAU b17_2 u1
           replace u2 := cellAU b17_2 u2
           replace qb := qb.below b17_2
           replace qq := qq.below b17_2
           replace q25 := q25.below b17_2
           replace hB := hB.trans (b17_2.mono hB.size)
           obtain ⟨s26, A26, L26, C26, D26, M26, E26, rfl, q26⟩ := q26.opn
           go_wp2_with fail
           refine hK.out _ _ ?_ (fun hHeld => ?_)
           · exact ⟨mc1, b0, b1, b2, u0, u1, u2⟩
           clear hK K
           try simp only [Act.put, lay1, lay2, lay3, lay4, lay5, lay6]
           refine wpAnyH_ready (rs := [13, 17]) (by kernel_rfl) (by simp) (AllReadyH.cons rfl (fun K hK => ?_) (AllReadyH.cons rfl (fun K hK => ?_) AllReadyH.nil))
           · go_simp
             refine (hNx _ _ _ qb q26).mono ?_
             rintro e u17_3 ⟨v27, rfl, q27, b17_3⟩
             replace core := core.below b17_3
             replace iWn := iWn.below b17_3
             replace tWn := tWn.below b17_3
             replace h15 := h15.below b17_3 h15.lt
             replace oq := oq.below b17_3
             replace iv := iv.below b17_3
             replace tv := tv.below b17_3
             replace mc1 := cellAU b17_3 mc1
             replace b0 := cellAU b17_3 b0
             replace b1 := cellAU b17_3 b1
             replace b2 := cellAU b17_3 b2
             replace u0 := cellAU b17_3 u0
             replace u1 := cellAU b17_3 u1
             replace u2 := cellAU b17_3 u2
             replace qb := qb.below b17_3
             replace qq := qq.below b17_3
             replace q25 := q25.below b17_3
             replace q26 := q26.below b17_3
             replace hB := hB.trans (b17_3.mono hB.size)
             obtain ⟨s27, A27, L27, C27, D27, M27, E27, rfl, q27⟩ := q27.opn
             go_wp2_with fail
             refine hK.out _ _ ?_ (fun hHeld => ?_)
             · exact ⟨mc1, b0, b1, b2, u0, u1, u2⟩
             clear hK K
             refine tkH 14 rfl (v := ?v31) ?h31 ?r31
             case h31 => intro w hSw; (try dsimp only at hSw); go_simp; try (with_reducible rfl)
             refine tkH 15 rfl (v := ?v32) ?h32 ?r32
             case h32 => intro w hSw; (try dsimp only at hSw); go_simp; try (with_reducible rfl)
             refine tkH 16 rfl (v := ?v33) ?h33 ?r33
             case h33 => intro w hSw; (try dsimp only at hSw); go_simp; try (with_reducible rfl)
             try simp only [Act.put, lay1, lay2, lay3, lay4, lay5, lay6]
             refine wpAnyH_ready (rs := [17]) (by kernel_rfl) (by simp) (AllReadyH.cons rfl (fun K hK => ?_) AllReadyH.nil)
             obtain ⟨u17_4, eu, h23, b17_4⟩ := box1 u17_3 32 #[.bool false, .slice none 0 0, .slice none 0 0]
             obtain ⟨XE, en⟩ : ∃ X, X = u17_3.heap.size := ⟨_, rfl⟩
             rw [← en] at h23
             have lXE : w.heap.size ≤ XE := by rw [en]; exact hB.size
             have dXE_h15 : X16 ≠ XE := by have := h15.lt; omega
             have EUXE := Lib.hid (And.intro eu en)
             clear eu en
             go_simp
             rw [← EUXE.out.1, ← EUXE.out.2]
             have gE : gb < XE := by rw [EUXE.out.2]; exact (core.b.lt gb rfl).2
             have gqE : gq < XE := by rw [EUXE.out.2]; exact (oq.lt gq rfl).2
             replace core := core.below b17_4
             replace iWn := iWn.below b17_4
             replace tWn := tWn.below b17_4
             replace h15 := h15.below b17_4 h15.lt
             replace oq := oq.below b17_4
             replace iv := iv.below b17_4
             replace tv := tv.below b17_4
             replace mc1 := cellAU b17_4 mc1
             replace b0 := cellAU b17_4 b0
             replace b1 := cellAU b17_4 b1
             replace b2 := cellAU b17_4 b2
             replace u0 := cellAU b17_4 u0
             replace u1 := cellAU b17_4 u1
             replace u2 := cellAU b17_4 u2
             replace qb := qb.below b17_4
             replace qq := qq.below b17_4
             replace q25 := q25.below b17_4
             replace q26 := q26.below b17_4
             replace q27 := q27.below b17_4
             replace hB := hB.trans (b17_4.mono hB.size)
             refine hK.out _ _ ?_ (fun hHeld => ?_)
             · exact ⟨mc1, b0, b1, b2, u0, u1, u2⟩
             clear hK K
             try simp only [Act.put, lay1, lay2, lay3, lay4, lay5, lay6]
             refine wpAnyH_ready (rs := [18]) (by kernel_rfl) (by simp) (AllReadyH.cons rfl (fun K hK => ?_) AllReadyH.nil)
             obtain ⟨u17_5, eu, hf, hk', hs⟩ := fillThree h23 (.bool s27) (.slice A27 L27 C27) (.slice D27 M27 E27) (by simp [noU])
             have xf := h23.frozen
             have y0 := h23.cell 0
             have y1 := h23.cell 1
             have y2 := h23.cell 2
             go_simp
             rw [← eu]
             replace q27 := q27.filled hf.2.1
             replace iWn := iWn.keepBlk h23 (by simp [noI]) hk' hs
             replace iv := iv.keepBlk h23 (by simp [noI]) hk' hs
             replace tWn := tWn.same h23 rat_ne_int hk'
             replace tv := tv.same h23 rat_ne_int hk'
             replace core := core.fill hf (by have := core.ord; omega) (fun e => absurd (show gr = XE by injection e) (by omega)) (fun e => absurd (show gb = XE by injection e) (by omega))
             replace oq := oq.filled (fun e => absurd (show gq = XE by injection e) (by omega)) hf.2.1 hf.2.2.1
             replace h15 := hf.2.2.1 _ _ _ h15 (by omega)
             replace hB := hf.2.2.2 _ _ (by omega) hB
             replace h23 := hf.1
             have cgb : ∀ i, World.cell? u17_5 ⟨gb, i, none⟩ = World.cell? u17_4 ⟨gb, i, none⟩ := fun i => World.cell?_of_block (hk' gb (by omega))
             have cgq : ∀ i, World.cell? u17_5 ⟨gq, i, none⟩ = World.cell? u17_4 ⟨gq, i, none⟩ := fun i => World.cell?_of_block (hk' gq (by omega))
             replace b0 := (cgb _).trans b0
             replace b1 := (cgb _).trans b1
             replace b2 := (cgb _).trans b2
             replace u0 := (cgq _).trans u0
             replace u1 := (cgq _).trans u1
             replace u2 := (cgq _).trans u2
             replace mc1 := core.m.cell 1
             clear eu hf hk' hs xf y0 y1 y2 qb qq q25 q26 cgb cgq
             refine hK.out _ _ ?_ (fun hHeld => ?_)
             · exact ⟨mc1, b0, b1, b2, u0, u1, u2⟩
             clear hK K
             refine tkH 19 rfl (v := ?v34) ?h34 ?r34
             case h34 => intro w hSw; (try dsimp only at hSw); go_simp; try (with_reducible rfl)
             try simp only [Act.put, lay1, lay2, lay3, lay4, lay5, lay6]
             try dsimp only
             try simp only [Act.put, lay1, lay2, lay3, lay4, lay5, lay6]
             refine wpAnyH_done (by kernel_rfl) ?_ _
             refine NoPanic.normal ?_
             go_wp2_with fail
             go_meet
             exact ⟨XE, s27, A27, L27, C27, D27, M27, E27, rfl, rfl, core, iWn, tWn, h15, oq, iv, tv, q27, h23, hB, lXE, (by assumption)⟩
           · obtain ⟨u17_6, eu, h23, b17_6⟩ := box1 u17_2 32 #[.bool false, .slice none 0 0, .slice none 0 0]
             obtain ⟨XE, en⟩ : ∃ X, X = u17_2.heap.size := ⟨_, rfl⟩
             rw [← en] at h23
             have lXE : w.heap.size ≤ XE := by rw [en]; exact hB.size
             have dXE_h15 : X16 ≠ XE := by have := h15.lt; omega
             have EUXE := Lib.hid (And.intro eu en)
             clear eu en
             go_simp
             rw [← EUXE.out.1, ← EUXE.out.2]
             have gE : gb < XE := by rw [EUXE.out.2]; exact (core.b.lt gb rfl).2
             have gqE : gq < XE := by rw [EUXE.out.2]; exact (oq.lt gq rfl).2
             replace core := core.below b17_6
             replace iWn := iWn.below b17_6
             replace tWn := tWn.below b17_6
             replace h15 := h15.below b17_6 h15.lt
             replace oq := oq.below b17_6
             replace iv := iv.below b17_6
             replace tv := tv.below b17_6
             replace mc1 := cellAU b17_6 mc1
             replace b0 := cellAU b17_6 b0
             replace b1 := cellAU b17_6 b1
             replace b2 := cellAU b17_6 b2
             replace u0 := cellAU b17_6 u0
             replace u1 := cellAU b17_6 u1
             replace u2 := cellAU b17_6 u2
             replace qb := qb.below b17_6
             replace qq := qq.below b17_6
             replace q25 := q25.below b17_6
             replace q26 := q26.below b17_6
             replace hB := hB.trans (b17_6.mono hB.size)
             refine hK.out _ _ ?_ (fun hHeld => ?_)
             · exact ⟨mc1, b0, b1, b2, u0, u1, u2⟩
             clear hK K
             try simp only [Act.put, lay1, lay2, lay3, lay4, lay5, lay6]
             refine wpAnyH_ready (rs := [13]) (by kernel_rfl) (by simp) (AllReadyH.cons rfl (fun K hK => ?_) AllReadyH.nil)
             go_simp
             refine (hNx _ _ _ qb q26).mono ?_
             rintro e u17_7 ⟨v27, rfl, q27, b17_7⟩
             replace core := core.below b17_7
             replace iWn := iWn.below b17_7
             replace tWn := tWn.below b17_7
             replace h15 := h15.below b17_7 h15.lt
             replace oq := oq.below b17_7
             replace iv := iv.below b17_7
             replace tv := tv.below b17_7
             replace mc1 := cellAU b17_7 mc1
             replace b0 := cellAU b17_7 b0
             replace b1 := cellAU b17_7 b1
             replace b2 := cellAU b17_7 b2
             replace u0 := cellAU b17_7 u0
             replace u1 := cellAU b17_7 u1
             replace u2 := cellAU b17_7 u2
             replace qb := qb.below b17_7
             replace qq := qq.below b17_7
             replace q25 := q25.below b17_7
             replace q26 := q26.below b17_7
             replace h23 := h23.below b17_7 h23.lt
             replace hB := hB.trans (b17_7.mono hB.size)
             obtain ⟨s27, A27, L27, C27, D27, M27, E27, rfl, q27⟩ := q27.opn
             go_wp2_with fail
             refine hK.out _ _ ?_ (fun hHeld => ?_)
             · exact ⟨mc1, b0, b1, b2, u0, u1, u2⟩
             clear hK K
             refine tkH 14 rfl (v := ?v35) ?h35 ?r35
             case h35 => intro w hSw; (try dsimp only at hSw); go_simp; try (with_reducible rfl)
             refine tkH 15 rfl (v := ?v36) ?h36 ?r36
             case h36 => intro w hSw; (try dsimp only at hSw); go_simp; try (with_reducible rfl)
             refine tkH 16 rfl (v := ?v37) ?h37 ?r37
             case h37 => intro w hSw; (try dsimp only at hSw); go_simp; try (with_reducible rfl)
             try simp only [Act.put, lay1, lay2, lay3, lay4, lay5, lay6]
             refine wpAnyH_ready (rs := [18]) (by kernel_rfl) (by simp) (AllReadyH.cons rfl (fun K hK => ?_) AllReadyH.nil)
             obtain ⟨u17_8, eu, hf, hk', hs⟩ := fillThree h23 (.bool s27) (.slice A27 L27 C27) (.slice D27 M27 E27) (by simp [noU])
             have xf := h23.frozen
             have y0 := h23.cell 0
             have y1 := h23.cell 1
             have y2 := h23.cell 2
             go_simp
             rw [← eu]
             replace q27 := q27.filled hf.2.1
             replace iWn := iWn.keepBlk h23 (by simp [noI]) hk' hs
             replace iv := iv.keepBlk h23 (by simp [noI]) hk' hs
             replace tWn := tWn.same h23 rat_ne_int hk'
             replace tv := tv.same h23 rat_ne_int hk'
             replace core := core.fill hf (by have := core.ord; omega) (fun e => absurd (show gr = XE by injection e) (by omega)) (fun e => absurd (show gb = XE by injection e) (by omega))
             replace oq := oq.filled (fun e => absurd (show gq = XE by injection e) (by omega)) hf.2.1 hf.2.2.1
             replace h15 := hf.2.2.1 _ _ _ h15 (by omega)
             replace hB := hf.2.2.2 _ _ (by omega) hB
             replace h23 := hf.1
             have cgb : ∀ i, World.cell? u17_8 ⟨gb, i, none⟩ = World.cell? u17_7 ⟨gb, i, none⟩ := fun i => World.cell?_of_block (hk' gb (by omega))
             have cgq : ∀ i, World.cell? u17_8 ⟨gq, i, none⟩ = World.cell? u17_7 ⟨gq, i, none⟩ := fun i => World.cell?_of_block (hk' gq (by omega))
             replace b0 := (cgb _).trans b0
             replace b1 := (cgb _).trans b1
             replace b2 := (cgb _).trans b2
             replace u0 := (cgq _).trans u0
             replace u1 := (cgq _).trans u1
             replace u2 := (cgq _).trans u2
             replace mc1 := core.m.cell 1
             clear eu hf hk' hs xf y0 y1 y2 qb qq q25 q26 cgb cgq
             refine hK.out _ _ ?_ (fun hHeld => ?_)
             · exact ⟨mc1, b0, b1, b2, u0, u1, u2⟩
             clear hK K
             refine tkH 19 rfl (v := ?v38) ?h38 ?r38
             case h38 => intro w hSw; (try dsimp only at hSw); go_simp; try (with_reducible rfl)
             try simp only [Act.put, lay1, lay2, lay3, lay4, lay5, lay6]
             try dsimp only
             try simp only [Act.put, lay1, lay2, lay3, lay4, lay5, lay6]
             refine wpAnyH_done (by kernel_rfl) ?_ _
             refine NoPanic.normal ?_
             go_wp2_with fail
             go_meet
             exact ⟨XE, s27, A27, L27, C27, D27, M27, E27, rfl, rfl, core, iWn, tWn, h15, oq, iv, tv, q27, h23, hB, lXE, (by assumption)⟩
         · obtain ⟨u17_9, eu, h23, b17_9⟩ := box1 u17_1 32 #[.bool false, .slice none 0 0, .slice none 0 0]
           obtain ⟨XE, en⟩ : ∃ X, X = u17_1.heap.size := ⟨_, rfl⟩
           rw [← en] at h23
           have lXE : w.heap.size ≤ XE := by rw [en]; exact hB.size
           have dXE_h15 : X16 ≠ XE := by have := h15.lt; omega
           have EUXE := Lib.hid (And.intro eu en)
           clear eu en
           go_simp
           rw [← EUXE.out.1, ← EUXE.out.2]
           have gE : gb < XE := by rw [EUXE.out.2]; exact (core.b.lt gb rfl).2
           have gqE : gq < XE := by rw [EUXE.out.2]; exact (oq.lt gq rfl).2
           replace core := core.below b17_9
           replace iWn := iWn.below b17_9
           replace tWn := tWn.below b17_9
           replace h15 := h15.below b17_9 h15.lt
           replace oq := oq.below b17_9
           replace iv := iv.below b17_9
           replace tv := tv.below b17_9
           replace mc1 := cellAU b17_9 mc1
           replace b0 := cellAU b17_9 b0
           replace b1 := cellAU b17_9 b1
           replace b2 := cellAU b17_9 b2
           replace u0 := cellAU b17_9 u0
           replace u1 := cellAU b17_9 u1
           replace u2 := cellAU b17_9 u2
           replace qb := qb.below b17_9
           replace qq := qq.below b17_9
           replace q25 := q25.below b17_9
           replace hB := hB.trans (b17_9.mono hB.size)
           refine hK.out _ _ ?_ (fun hHeld => ?_)
           · exact ⟨mc1, b0, b1, b2, u0, u1, u2⟩
           clear hK K
           try simp only [Act.put, lay1, lay2, lay3, lay4, lay5, lay6]
           refine wpAnyH_ready (rs := [12]) (by kernel_rfl) (by simp) (AllReadyH.cons rfl (fun K hK => ?_) AllReadyH.nil)
           go_simp
           refine (hA2 _ _ _ qq q25).mono ?_
           rintro e u17_10 ⟨v26, rfl, q26, b17_10⟩
           replace core := core.below b17_10
           replace iWn := iWn.below b17_10
           replace tWn := tWn.below b17_10
           replace h15 := h15.below b17_10 h15.lt
           replace oq := oq.below b17_10
           replace iv := iv.below b17_10
           replace tv := tv.below b17_10
           replace mc1 := cellAU b17_10 mc1
           replace b0 := cellAU b17_10 b0
           replace b1 := cellAU b17_10 b1
           replace b2 := cellAU b17_10 b2
           replace u0 := cellAU b17_10 u0
           replace u1 := cellAU b17_10 u1
           replace u2 := cellAU b17_10 u2
           replace qb := qb.below b17_10
           replace qq := qq.below b17_10
           replace q25 := q25.below b17_10
           replace h23 := h23.below b17_10 h23.lt
           replace hB := hB.trans (b17_10.mono hB.size)
           obtain ⟨s26, A26, L26, C26, D26, M26, E26, rfl, q26⟩ := q26.opn
           go_wp2_with fail
           refine hK.out _ _ ?_ (fun hHeld => ?_)
           · exact ⟨mc1, b0, b1, b2, u0, u1, u2⟩
           clear hK K
           try simp only [Act.put, lay1, lay2, lay3, lay4, lay5, lay6]
           refine wpAnyH_ready (rs := [13]) (by kernel_rfl) (by simp) (AllReadyH.cons rfl (fun K hK => ?_) AllReadyH.nil)
           go_simp
           refine (hNx _ _ _ qb q26).mono ?_
           rintro e u17_11 ⟨v27, rfl, q27, b17_11⟩
           replace core := core.below b17_11
           replace iWn := iWn.below b17_11
           replace tWn := tWn.below b17_11
           replace h15 := h15.below b17_11 h15.lt
           replace oq := oq.below b17_11
           replace iv := iv.below b17_11
           replace tv := tv.below b17_11
           replace mc1 := cellAU b17_11 mc1
           replace b0 := cellAU b17_11 b0
           replace b1 := cellAU b17_11 b1
           replace b2 := cellAU b17_11 b2
           replace u0 := cellAU b17_11 u0
           replace u1 := cellAU b17_11 u1
           replace u2 := cellAU b17_11 u2
           replace qb := qb.below b17_11
           replace qq := qq.below b17_11
           replace q25 := q25.below b17_11
           replace h23 := h23.below b17_11 h23.lt
           replace q26 := q26.below b17_11
           replace hB := hB.trans (b17_11.mono hB.size)
           obtain ⟨s27, A27, L27, C27, D27, M27, E27, rfl, q27⟩ := q27.opn
           go_wp2_with fail
           refine hK.out _ _ ?_ (fun hHeld => ?_)
           · exact ⟨mc1, b0, b1, b2, u0, u1, u2⟩
           clear hK K
           refine tkH 14 rfl (v := ?v39) ?h39 ?r39
           case h39 => intro w hSw; (try dsimp only at hSw); go_simp; try (with_reducible rfl)
           refine tkH 15 rfl (v := ?v40) ?h40 ?r40
           case h40 => intro w hSw; (try dsimp only at hSw); go_simp; try (with_reducible rfl)
           refine tkH 16 rfl (v := ?v41) ?h41 ?r41
           case h41 => intro w hSw; (try dsimp only at hSw); go_simp; try (with_reducible rfl)
           try simp only [Act.put, lay1, lay2, lay3, lay4, lay5, lay6]
           refine wpAnyH_ready (rs := [18]) (by kernel_rfl) (by simp) (AllReadyH.cons rfl (fun K hK => ?_) AllReadyH.nil)
           obtain ⟨u17_12, eu, hf, hk', hs⟩ := fillThree h23 (.bool s27) (.slice A27 L27 C27) (.slice D27 M27 E27) (by simp [noU])
           have xf := h23.frozen
           have y0 := h23.cell 0
           have y1 := h23.cell 1
           have y2 := h23.cell 2
           go_simp
           rw [← eu]
           replace q27 := q27.filled hf.2.1
           replace iWn := iWn.keepBlk h23 (by simp [noI]) hk' hs
           replace iv := iv.keepBlk h23 (by simp [noI]) hk' hs
           replace tWn := tWn.same h23 rat_ne_int hk'
           replace tv := tv.same h23 rat_ne_int hk'
           replace core := core.fill hf (by have := core.ord; omega) (fun e => absurd (show gr = XE by injection e) (by omega)) (fun e => absurd (show gb = XE by injection e) (by omega))
           replace oq := oq.filled (fun e => absurd (show gq = XE by injection e) (by omega)) hf.2.1 hf.2.2.1
           replace h15 := hf.2.2.1 _ _ _ h15 (by omega)
           replace hB := hf.2.2.2 _ _ (by omega) hB
           replace h23 := hf.1
           have cgb : ∀ i, World.cell? u17_12 ⟨gb, i, none⟩ = World.cell? u17_11 ⟨gb, i, none⟩ := fun i => World.cell?_of_block (hk' gb (by omega))
           have cgq : ∀ i, World.cell? u17_12 ⟨gq, i, none⟩ = World.cell? u17_11 ⟨gq, i, none⟩ := fun i => World.cell?_of_block (hk' gq (by omega))
           replace b0 := (cgb _).trans b0
           replace b1 := (cgb _).trans b1
           replace b2 := (cgb _).trans b2
           replace u0 := (cgq _).trans u0
           replace u1 := (cgq _).trans u1
           replace u2 := (cgq _).trans u2
           replace mc1 := core.m.cell 1
           clear eu hf hk' hs xf y0 y1 y2 qb qq q25 q26 cgb cgq
           refine hK.out _ _ ?_ (fun hHeld => ?_)
           · exact ⟨mc1, b0, b1, b2, u0, u1, u2⟩
           clear hK K
           refine tkH 19 rfl (v := ?v42) ?h42 ?r42
           case h42 => intro w hSw; (try dsimp only at hSw); go_simp; try (with_reducible rfl)
           try simp only [Act.put, lay1, lay2, lay3, lay4, lay5, lay6]
           try dsimp only
           try simp only [Act.put, lay1, lay2, lay3, lay4, lay5, lay6]
           refine wpAnyH_done (by kernel_rfl) ?_ _
           refine NoPanic.normal ?_
           go_wp2_with fail
           go_meet
           exact ⟨XE, s27, A27, L27, C27, D27, M27, E27, rfl, rfl, core, iWn, tWn, h15, oq, iv, tv, q27, h23, hB, lXE, (by assumption)⟩
       · obtain ⟨u17_13, eu, h23, b17_13⟩ := box1 wd17_3 32 #[.bool false, .slice none 0 0, .slice none 0 0]
         obtain ⟨XE, en⟩ : ∃ X, X = wd17_3.heap.size := ⟨_, rfl⟩
         rw [← en] at h23
         have lXE : w.heap.size ≤ XE := by rw [en]; exact hB.size
         have dXE_h15 : X16 ≠ XE := by have := h15.lt; omega
         have EUXE := Lib.hid (And.intro eu en)
         clear eu en
         go_simp
         rw [← EUXE.out.1, ← EUXE.out.2]
         have gE : gb < XE := by rw [EUXE.out.2]; exact (core.b.lt gb rfl).2
         have gqE : gq < XE := by rw [EUXE.out.2]; exact (oq.lt gq rfl).2
         replace core := core.below b17_13
         replace iWn := iWn.below b17_13
         replace tWn := tWn.below b17_13
         replace h15 := h15.below b17_13 h15.lt
         replace oq := oq.below b17_13
         replace iv := iv.below b17_13
         replace tv := tv.below b17_13
         replace mc1 := cellAU b17_13 mc1
         replace b0 := cellAU b17_13 b0
         replace b1 := cellAU b17_13 b1
         replace b2 := cellAU b17_13 b2
         replace u0 := cellAU b17_13 u0
         replace u1 := cellAU b17_13 u1
         replace u2 := cellAU b17_13 u2
         replace qb := qb.below b17_13
         replace qq := qq.below b17_13
         replace hB := hB.trans (b17_13.mono hB.size)
         refine hK.out _ _ ?_ (fun hHeld => ?_)
         · exact ⟨mc1, b0, b1, b2, u0, u1, u2⟩
         clear hK K
         try simp only [Act.put, lay1, lay2, lay3, lay4, lay5, lay6]
         refine wpAnyH_ready (rs := [11]) (by kernel_rfl) (by simp) (AllReadyH.cons rfl (fun K hK => ?_) AllReadyH.nil)
         go_simp
         refine (hHf _).mono ?_
         rintro e u17_14 ⟨v25, rfl, q25, b17_14⟩
         replace core := core.below b17_14
         replace iWn := iWn.below b17_14
         replace tWn := tWn.below b17_14
         replace h15 := h15.below b17_14 h15.lt
         replace oq := oq.below b17_14
         replace iv := iv.below b17_14
         replace tv := tv.below b17_14
         replace mc1 := cellAU b17_14 mc1
         replace b0 := cellAU b17_14 b0
         replace b1 := cellAU b17_14 b1
         replace b2 := cellAU b17_14 b2
         replace u0 := cellAU b17_14 u0
         replace u1 := cellAU b17_14 u1
         replace u2 := cellAU b17_14 u2
         replace qb := qb.below b17_14
         replace qq := qq.below b17_14
         replace h23 := h23.below b17_14 h23.lt
         replace hB := hB.trans (b17_14.mono hB.size)
         obtain ⟨s25, A25, L25, C25, D25, M25, E25, rfl, q25⟩ := q25.opn
         go_wp2_with fail
         refine hK.out _ _ ?_ (fun hHeld => ?_)
         · exact ⟨mc1, b0, b1, b2, u0, u1, u2⟩
         clear hK K
         try simp only [Act.put, lay1, lay2, lay3, lay4, lay5, lay6]
         refine wpAnyH_ready (rs := [12]) (by kernel_rfl) (by simp) (AllReadyH.cons rfl (fun K hK => ?_) AllReadyH.nil)
         go_simp
         refine (hA2 _ _ _ qq q25).mono ?_
         rintro e u17_15 ⟨v26, rfl, q26, b17_15⟩
         replace core := core.below b17_15
         replace iWn := iWn.below b17_15
         replace tWn := tWn.below b17_15
         replace h15 := h15.below b17_15 h15.lt
         replace oq := oq.below b17_15
         replace iv := iv.below b17_15
         replace tv := tv.below b17_15
         replace mc1 := cellAU b17_15 mc1
         replace b0 := cellAU b17_15 b0
         replace b1 := cellAU b17_15 b1
         replace b2 := cellAU b17_15 b2
         replace u0 := cellAU b17_15 u0
         replace u1 := cellAU b17_15 u1
         replace u2 := cellAU b17_15 u2
         replace qb := qb.below b17_15
         replace qq := qq.below b17_15
         replace h23 := h23.below b17_15 h23.lt
         replace q25 := q25.below b17_15
         replace hB := hB.trans (b17_15.mono hB.size)
         obtain ⟨s26, A26, L26, C26, D26, M26, E26, rfl, q26⟩ := q26.opn
         go_wp2_with fail
         refine hK.out _ _ ?_ (fun hHeld => ?_)
         · exact ⟨mc1, b0, b1, b2, u0, u1, u2⟩
         clear hK K
         try simp only [Act.put, lay1, lay2, lay3, lay4, lay5, lay6]
         refine wpAnyH_ready (rs := [13]) (by kernel_rfl) (by simp) (AllReadyH.cons rfl (fun K hK => ?_) AllReadyH.nil)
         go_simp
         refine (hNx _ _ _ qb q26).mono ?_
         rintro e u17_16 ⟨v27, rfl, q27, b17_16⟩
         replace core := core.below b17_16
         replace iWn := iWn.below b17_16
         replace tWn := tWn.below b17_16
         replace h15 := h15.below b17_16 h15.lt
         replace oq := oq.below b17_16
         replace iv := iv.below b17_16
         replace tv := tv.below b17_16
         replace mc1 := cellAU b17_16 mc1
         replace b0 := cellAU b17_16 b0
         replace b1 := cellAU b17_16 b1
         replace b2 := cellAU b17_16 b2
         replace u0 := cellAU b17_16 u0
         replace u1 := cellAU b17_16 u1
         replace u2 := cellAU b17_16 u2
         replace qb := qb.below b17_16
         replace qq := qq.below b17_16
         replace h23 := h23.below b17_16 h23.lt
         replace q25 := q25.below b17_16
         replace q26 := q26.below b17_16
         replace hB := hB.trans (b17_16.mono hB.size)
         obtain ⟨s27, A27, L27, C27, D27, M27, E27, rfl, q27⟩ := q27.opn
         go_wp2_with fail
         refine hK.out _ _ ?_ (fun hHeld => ?_)
         · exact ⟨mc1, b0, b1, b2, u0, u1, u2⟩
         clear hK K
         refine tkH 14 rfl (v := ?v43) ?h43 ?r43
         case h43 => intro w hSw; (try dsimp only at hSw); go_simp; try (with_reducible rfl)
         refine tkH 15 rfl (v := ?v44) ?h44 ?r44
         case h44 => intro w hSw; (try dsimp only at hSw); go_simp; try (with_reducible rfl)
         refine tkH 16 rfl (v := ?v45) ?h45 ?r45
         case h45 => intro w hSw; (try dsimp only at hSw); go_simp; try (with_reducible rfl)
         try simp only [Act.put, lay1, lay2, lay3, lay4, lay5, lay6]
         refine wpAnyH_ready (rs := [18]) (by kernel_rfl) (by simp) (AllReadyH.cons rfl (fun K hK => ?_) AllReadyH.nil)
         obtain ⟨u17_17, eu, hf, hk', hs⟩ := fillThree h23 (.bool s27) (.slice A27 L27 C27) (.slice D27 M27 E27) (by simp [noU])
         have xf := h23.frozen
         have y0 := h23.cell 0
         have y1 := h23.cell 1
         have y2 := h23.cell 2
         go_simp
         rw [← eu]
         replace q27 := q27.filled hf.2.1
         replace iWn := iWn.keepBlk h23 (by simp [noI]) hk' hs
         replace iv := iv.keepBlk h23 (by simp [noI]) hk' hs
         replace tWn := tWn.same h23 rat_ne_int hk'
         replace tv := tv.same h23 rat_ne_int hk'
         replace core := core.fill hf (by have := core.ord; omega) (fun e => absurd (show gr = XE by injection e) (by omega)) (fun e => absurd (show gb = XE by injection e) (by omega))
         replace oq := oq.filled (fun e => absurd (show gq = XE by injection e) (by omega)) hf.2.1 hf.2.2.1
         replace h15 := hf.2.2.1 _ _ _ h15 (by omega)
         replace hB := hf.2.2.2 _ _ (by omega) hB
         replace h23 := hf.1
         have cgb : ∀ i, World.cell? u17_17 ⟨gb, i, none⟩ = World.cell? u17_16 ⟨gb, i, none⟩ := fun i => World.cell?_of_block (hk' gb (by omega))
         have cgq : ∀ i, World.cell? u17_17 ⟨gq, i, none⟩ = World.cell? u17_16 ⟨gq, i, none⟩ := fun i => World.cell?_of_block (hk' gq (by omega))
         replace b0 := (cgb _).trans b0
         replace b1 := (cgb _).trans b1
         replace b2 := (cgb _).trans b2
         replace u0 := (cgq _).trans u0
         replace u1 := (cgq _).trans u1
         replace u2 := (cgq _).trans u2
         replace mc1 := core.m.cell 1
         clear eu hf hk' hs xf y0 y1 y2 qb qq q25 q26 cgb cgq
         refine hK.out _ _ ?_ (fun hHeld => ?_)
         · exact ⟨mc1, b0, b1, b2, u0, u1, u2⟩
         clear hK K
         refine tkH 19 rfl (v := ?v46) ?h46 ?r46
         case h46 => intro w hSw; (try dsimp only at hSw); go_simp; try (with_reducible rfl)
         try simp only [Act.put, lay1, lay2, lay3, lay4, lay5, lay6]
         try dsimp only
         try simp only [Act.put, lay1, lay2, lay3, lay4, lay5, lay6]
         refine wpAnyH_done (by kernel_rfl) ?_ _
         refine NoPanic.normal ?_
         go_wp2_with fail
         go_meet
         exact ⟨XE, s27, A27, L27, C27, D27, M27, E27, rfl, rfl, core, iWn, tWn, h15, oq, iv, tv, q27, h23, hB, lXE, (by assumption)⟩
     obtain ⟨XE, s27, A27, L27, C27, D27, M27, E27, rfl, rfl, core, iWn, tWn, h15, oq, iv, tv, q27, h23, hB, lXE, dXE_h15⟩ := hcut
     obtain ⟨c110, c111, c112, c113⟩ := h15.q4
     obtain ⟨c114, c115, c116⟩ := h23.q3
     have lms2 : kk < ms.length := by have := LM.out.1; omega
     obtain ⟨am, rfl, v0⟩ := iv.at_ (k := kk) lms2
     obtain ⟨gr', cr', s30, A30, L30, C30, D30, M30, E30, er, _, _, w0, w1, w2, qr⟩ := core.r.at0 (i := kk) (by rw [List.length_set]; omega)
     obtain rfl : gr = gr' := by injection er with e1; injection e1 with e1; injection e1
     rw [List.getElem_set_self] at qr
     clear er lms2
     generalize hvk : iat ms kk = vk at *
     have HVK := Lib.hid hvk
     clear hvk
     go_upto_region 18 with fail
     replace hB := hB.drew
     replace core := core.below (bdrew _)
     replace iWn := iWn.below (bdrew _)
     replace tWn := tWn.below (bdrew _)
     replace h15 := h15.drew
     replace oq := oq.below (bdrew _)
     replace iv := iv.below (bdrew _)
     replace tv := tv.below (bdrew _)
     replace q27 := q27.below (bdrew _)
     replace h23 := h23.drew
     replace v0 := cellAU (bdrew _) v0
     replace w0 := cellAU (bdrew _) w0
     replace w1 := cellAU (bdrew _) w1
     replace w2 := cellAU (bdrew _) w2
     replace qr := qr.below (bdrew _)
     clear c110 c111 c112 c113 c114 c115 c116
     refine wp_region_noPanic ?_
     refine wp_region_held_drew (S := fun w' => w'.cell? (am.add kk) = some (.int .i64 vk) ∧ w'.cell? ⟨gr, kk * 3, none⟩ = some (.bool s30) ∧ w'.cell? ⟨gr, kk * 3 + 1, none⟩ = some (.slice A30 L30 C30) ∧ w'.cell? ⟨gr, kk * 3 + 2, none⟩ = some (.slice D30 M30 E30) ∧ w'.cell? ⟨XE, 0, none⟩ = some (.bool s27) ∧ w'.cell? ⟨XE, 1, none⟩ = some (.slice A27 L27 C27) ∧ w'.cell? ⟨XE, 2, none⟩ = some (.slice D27 M27 E27)) (by kernel_rfl) ?_ (fun hHeld => ?_)
     · exact ⟨v0, w0, w1, w2, h23.cell 0, h23.cell 1, h23.cell 2⟩
     obtain ⟨wd18_4, hwd⟩ : ∃ q, q = wc.drew := ⟨_, rfl⟩
     rw [← hwd] at hB core iWn tWn h15 oq iv tv q27 h23 v0 w0 w1 w2 qr hHeld ⊢
     clear hwd
     refine tkH 0 rfl (v := ?v47) ?h47 ?r47
     case h47 => intro w hSw; (try dsimp only at hSw); go_simp; try (with_reducible rfl)
     refine tkH 1 rfl (v := ?v48) ?h48 ?r48
     case h48 => intro w hSw; (try dsimp only at hSw); go_simp; try (with_reducible rfl)
     refine tkH 2 rfl (v := ?v49) ?h49 ?r49
     case h49 => intro w hSw; (try dsimp only at hSw); go_simp; try (with_reducible rfl)
     refine tkH 3 rfl (v := ?v50) ?h50 ?r50
     case h50 => intro w hSw; (try dsimp only at hSw); go_simp; try (with_reducible rfl)
     refine tkH 4 rfl (v := ?v51) ?h51 ?r51
     case h51 => intro w hSw; (try dsimp only at hSw); go_simp; try (with_reducible rfl)
     refine tkH 5 rfl (v := ?v52) ?h52 ?r52
     case h52 => intro w hSw; (try dsimp only at hSw); go_simp; try (with_reducible rfl)
     refine tkH 6 rfl (v := ?v53) ?h53 ?r53
     case h53 => intro w hSw; (try dsimp only at hSw); go_simp; try (with_reducible rfl)
     refine tkH 7 rfl (v := ?v54) ?h54 ?r54
     case h54 => intro w hSw; (try dsimp only at hSw); go_simp; try (with_reducible rfl)
     refine tkH 8 rfl (v := ?v55) ?h55 ?r55
     case h55 => intro w hSw; (try dsimp only at hSw); go_simp; try (with_reducible rfl)
     refine tkH 9 rfl (v := ?v56) ?h56 ?r56
     case h56 => intro w hSw; (try dsimp only at hSw); go_simp; try (with_reducible rfl)
     refine tkH 10 rfl (v := ?v57) ?h57 ?r57
     case h57 => intro w hSw; (try dsimp only at hSw); go_simp; try (with_reducible rfl)
     refine tkH 11 rfl (v := ?v58) ?h58 ?r58
     case h58 => intro w hSw; (try dsimp only at hSw); go_simp; try (with_reducible rfl)
     refine tkH 13 rfl (v := ?v59) ?h59 ?r59
     case h59 => intro w hSw; (try dsimp only at hSw); go_simp; try (with_reducible rfl)
     try simp only [Act.put, lay1, lay2, lay3, lay4, lay5, lay6]
     refine wpAnyH_ready (rs := [12]) (by kernel_rfl) (by simp) (AllReadyH.cons rfl (fun K hK => ?_) AllReadyH.nil)
     go_simp
     refine (hSt _ _ qr).mono ?_
     rintro e u18_1 ⟨v31, rfl, q31, b18_1⟩
     replace core := core.below b18_1
     replace iWn := iWn.below b18_1
     replace tWn := tWn.below b18_1
     replace h15 := h15.below b18_1 h15.lt
     replace oq := oq.below b18_1
     replace iv := iv.below b18_1
     replace tv := tv.below b18_1
     replace q27 := q27.below b18_1
     replace h23 := h23.below b18_1 h23.lt
     replace v0 := cellAU b18_1 v0
     replace w0 := cellAU b18_1 w0
     replace w1 := cellAU b18_1 w1
     replace w2 := cellAU b18_1 w2
     replace qr := qr.below b18_1
     replace hB := hB.trans (b18_1.mono hB.size)
     go_wp2_with fail
     refine hK.out _ _ ?_ (fun hHeld => ?_)
     · exact ⟨v0, w0, w1, w2, h23.cell 0, h23.cell 1, h23.cell 2⟩
     clear hK K
     try simp only [Act.put, lay1, lay2, lay3, lay4, lay5, lay6]
     refine wpAnyH_ready (rs := [14]) (by kernel_rfl) (by simp) (AllReadyH.cons rfl (fun K hK => ?_) AllReadyH.nil)
     go_simp
     refine (hCm _ _ _ q31 q27).mono ?_
     rintro e u18_2 ⟨rfl, b18_2⟩
     replace core := core.below b18_2
     replace iWn := iWn.below b18_2
     replace tWn := tWn.below b18_2
     replace h15 := h15.below b18_2 h15.lt
     replace oq := oq.below b18_2
     replace iv := iv.below b18_2
     replace tv := tv.below b18_2
     replace q27 := q27.below b18_2
     replace h23 := h23.below b18_2 h23.lt
     replace v0 := cellAU b18_2 v0
     replace w0 := cellAU b18_2 w0
     replace w1 := cellAU b18_2 w1
     replace w2 := cellAU b18_2 w2
     replace qr := qr.below b18_2
     replace q31 := q31.below b18_2
     replace hB := hB.trans (b18_2.mono hB.size)
     go_wp2_with fail
     refine hK.out _ _ ?_ (fun hHeld => ?_)
     · exact ⟨v0, w0, w1, w2, h23.cell 0, h23.cell 1, h23.cell 2⟩
     clear hK K
     refine tkH 15 rfl (v := ?v60) ?h60 ?r60
     case h60 => intro w hSw; (try dsimp only at hSw); go_simp; try (with_reducible rfl)
     refine tkH 16 rfl (v := ?v61) ?h61 ?r61
     case h61 => intro w hSw; (try dsimp only at hSw); go_simp; try (with_reducible rfl)
     try simp only [Act.put, lay1, lay2, lay3, lay4, lay5, lay6]
     try dsimp only
     try simp only [Act.put, lay1, lay2, lay3, lay4, lay5, lay6]
     refine wpAnyH_done (by kernel_rfl) ?_ _
     refine NoPanic.normal ?_
     skip
     obtain ⟨c117, c118, c119, c120⟩ := h15.q4
     obtain ⟨c121, c122, c123⟩ := h23.q3
     obtain ⟨gb', cb', er, hgS, hgl, hfz, hcl, W20, eW, core', hmv⟩ := core.putB (i := kk) (by omega) q27
     obtain rfl : gb = gb' := by injection er with e1; injection e1 with e1; injection e1
     have f0 := hfz (kk * 3)
     have f1 := hfz (kk * 3 + 1)
     have f2 := hfz (kk * 3 + 2)
     obtain ⟨y0, hy0, _⟩ := hcl 0 (by omega)
     obtain ⟨y1, hy1, _⟩ := hcl 1 (by omega)
     obtain ⟨y2, hy2, _⟩ := hcl 2 (by omega)
     rw [Nat.add_zero] at hy0
     clear er hfz hcl
     go_upto_region 14 with fail
     rw [← eW]
     replace h15 := h15.moved hmv (by omega)
     replace iWn := iWn.moved tWn hmv
     replace tWn := tWn.moved hmv
     replace iv := iv.moved tv hmv
     replace tv := tv.moved hmv
     replace oq := oq.moved hmv (fun e => absurd (show gq = gb by injection e) (by omega))
     replace hB := hB.grown hmv.1 hB.size (fun x e => by injection e with e; omega)
     replace core := core'
     clear core' hmv eW f0 f1 f2 hgS hgl hy0 hy1 hy2
     go_wp2
     exact ⟨⟨kk + 1, rs.set kk rn, bs.set kk bn, by go_num, by omega, by simp [lr2], by simp [lb2], GG.out.set hk2 lr2 lb2 (by rw [HVK.out]; exact GS.out), core, h15, iWn, tWn, iv, tv, oq, hB⟩, by simp [intOf]; omega⟩
end Go.Proofs.YtdnjdglekifhpaaGreat
