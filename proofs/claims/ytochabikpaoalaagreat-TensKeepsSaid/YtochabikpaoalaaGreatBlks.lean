/- Slices of blocks: what it is that a value reads as these blocks, kept over what memory does. -/
import Derived.Test.YtochabikpaoalaaGreatBlock3
import Derived.Test.YtochabikpaoalaaGreatTensM
namespace Go.Proofs.YtochabikpaoalaaGreat
open Go.RowKit
/-- a block, with the two slices that it lies in -/
abbrev Eb := Bk × Value × Value
def cellsE (e : Eb) : List Value := [.int .i64 e.1.1, .int .i64 e.1.2.1, e.2.1, e.2.2]
def flatB (es : List Eb) : List Value := es.flatMap cellsE
def OkB (w : World) (es : List Eb) : Prop := ∀ e ∈ es, IsY w e.2.1 e.1.2.2.1 ∧ IsI w e.2.2 e.1.2.2.2
/-- the value reads as these blocks -/
def IsBs (w : World) (v : Value) (bs : List Bk) : Prop := ∃ (es : List Eb) (A : Option Addr) (c : Nat), es.map (·.1) = bs ∧ v = .slice A es.length c ∧ es.length ≤ c ∧ c ≤ 9223372036854775807 ∧ OkB w es ∧ Reads w w.heap.size 4 A es.length (flatB es)
section
variable {w w' : World} {es : List Eb} {bs : List Bk} {v : Value}
theorem flatB_len : ∀ es : List Eb, (flatB es).length = es.length * 4
  | [] => rfl
  | e :: r => by
    have := flatB_len r
    unfold flatB at *
    rw [List.flatMap_cons, List.length_append, this]
    simp [cellsE]; omega
theorem flatB_at : ∀ (es : List Eb) (i j : Nat) (e : Eb), es[i]? = some e → j < 4 → (flatB es)[i * 4 + j]? = (cellsE e)[j]?
  | [], _, _, _, h, _ => by simp at h
  | x :: r, 0, j, e, h, hj => by
    obtain rfl : x = e := by simpa using h
    unfold flatB
    rw [List.flatMap_cons, List.getElem?_append_left (by simp [cellsE]; omega), Nat.zero_mul, Nat.zero_add]
  | x :: r, i + 1, j, e, h, hj => by
    have h' : r[i]? = some e := by simpa using h
    have := flatB_at r i j e h' hj
    unfold flatB at *
    rw [List.flatMap_cons, List.getElem?_append_right (by simp [cellsE]; omega), ← this]
    congr 1
    simp [cellsE]; omega
theorem flatB_one (es : List Eb) (h : OkB w es) : ∀ u ∈ flatB es, u.oneCell' = true := by
  intro u hu
  obtain ⟨e, he, hu⟩ := List.mem_flatMap.1 hu
  obtain ⟨⟨A, c, e1, _⟩, ⟨B, d, e2, _⟩⟩ := h e he
  simp only [cellsE, e1, e2, List.mem_cons, List.not_mem_nil, or_false] at hu
  rcases hu with rfl | rfl | rfl | rfl <;> rfl
theorem flatB_append (a b : List Eb) : flatB (a ++ b) = flatB a ++ flatB b := by simp [flatB]
theorem OkB.below (h : OkB w es) (hb : Below w.heap.size w w') : OkB w' es := fun e he => ⟨(h e he).1.below hb, (h e he).2.below hb⟩
theorem OkB.append {a b : List Eb} (h : OkB w a) (k : OkB w b) : OkB w (a ++ b) := fun e he => (List.mem_append.1 he).elim (h e) (k e)
theorem IsBs.below (h : IsBs w v bs) (hb : Below w.heap.size w w') : IsBs w' v bs := by
  obtain ⟨es, A, c, h1, h2, h3, h4, h5, h6⟩ := h
  exact ⟨es, A, c, h1, h2, h3, h4, h5.below hb, (h6.below hb).more hb.size⟩
theorem IsBs.nil (w : World) : IsBs w (.slice none 0 0) [] := ⟨[], none, 0, rfl, rfl, Nat.le_refl _, by omega, fun _ h => (nomatch h), Reads.none_⟩
theorem IsBs.len (h : IsBs w v bs) : ∃ A c, v = .slice A bs.length c ∧ bs.length ≤ c ∧ c ≤ 9223372036854775807 := by
  obtain ⟨es, A, c, rfl, rfl, h3, h4, _⟩ := h
  exact ⟨A, c, by rw [List.length_map], by rw [List.length_map]; exact h3, h4⟩
/-- the i-th of them -/
theorem IsBs.at_ (h : IsBs w v bs) {i : Nat} (hi : i < bs.length) : ∃ (ad : Addr) (c : Nat) (k s : Int) (cs : List Nat) (wd : List Int) (a b : Value), v = .slice (some ad) bs.length c ∧ ad.block < w.heap.size ∧ bs[i]? = some (k, s, cs, wd) ∧
    w.cell? (ad.add (i * 4)) = some (.int .i64 k) ∧ w.cell? ⟨(ad.add (i * 4)).block, (ad.add (i * 4)).off + 1, none⟩ = some (.int .i64 s) ∧ w.cell? ⟨(ad.add (i * 4)).block, (ad.add (i * 4)).off + 2, none⟩ = some a ∧ w.cell? ⟨(ad.add (i * 4)).block, (ad.add (i * 4)).off + 3, none⟩ = some b ∧ IsY w a cs ∧ IsI w b wd := by
  obtain ⟨es, A, c, rfl, rfl, h3, h4, h5, h6⟩ := h
  rw [List.length_map] at hi ⊢
  obtain ⟨ad, rfl, hb, hc⟩ := h6.2 (by omega)
  have he := List.getElem?_eq_getElem hi
  have hm : es[i] ∈ es := List.getElem_mem hi
  generalize es[i] = e at he hm
  obtain ⟨⟨k, s, cs, wd⟩, a, b⟩ := e
  obtain ⟨q1, q2⟩ := h5 _ hm
  have hx : ∀ j, 0 < j → (⟨(ad.add (i * 4)).block, (ad.add (i * 4)).off + j, none⟩ : Addr) = ad.add (i * 4 + j) := fun j hj => by
    rw [← add_of_add]; generalize ad.add (i * 4) = q
    unfold Addr.add; rw [if_neg (by omega)]
  refine ⟨ad, c, k, s, cs, wd, a, b, rfl, hb, by rw [List.getElem?_map, he]; rfl, hc _ _ ?_, (congrArg w.cell? (hx 1 (by omega))).trans (hc _ _ ?_), (congrArg w.cell? (hx 2 (by omega))).trans (hc _ _ ?_), (congrArg w.cell? (hx 3 (by omega))).trans (hc _ _ ?_), q1, q2⟩
  · have := flatB_at es i 0 _ he (by omega)
    rw [Nat.add_zero] at this
    rw [this]; rfl
  all_goals rw [flatB_at es i _ _ he (by omega)]; rfl
end
/-- no slice of a block lies in the row of the blocks -/
def AwayE (v : Value) (e : Eb) : Prop := ∀ g, v.ownBlock = some g → (e.1.2.2.1 = [] ∨ e.2.1.ownBlock ≠ some g) ∧ (e.1.2.2.2 = [] ∨ e.2.2.ownBlock ≠ some g)
/-- a row of blocks of the call's own -/
def OwnBs (w : World) (base fl : Nat) (v : Value) (bs : List Bk) : Prop := ∃ es : List Eb, es.map (·.1) = bs ∧ OkB w es ∧ (∀ e ∈ es, AwayE v e ∧ Fresh fl e.2.1 ∧ Fresh fl e.2.2) ∧ w.ownsRow base 43 4 v es.length (flatB es)
section
variable {w w' : World} {base fl : Nat} {bs : List Bk} {v : Value}
theorem IsI.grownF {l : List Int} {row : Option Nat} (h : IsI w v l) (hg : w.grownBy w' row) (hne : ∀ g, row = some g → l = [] ∨ v.ownBlock ≠ some g) : IsI w' v l := by
  obtain ⟨A, c, rfl, h1, h2, h4⟩ := h
  refine ⟨A, c, rfl, h1, h2, h4.1, fun hn => ?_⟩
  obtain ⟨ad, rfl, hb, hc⟩ := h4.2 hn
  refine ⟨ad, rfl, Nat.lt_of_lt_of_le hb hg.size, fun j y hj => (World.cell?_of_block (hg.block _ (by rw [block_of_add]; exact hb) fun e => ?_)).trans (hc j y hj)⟩
  rw [block_of_add] at e
  rcases hne _ e.symm with rfl | h
  · simp at hn
  · exact h rfl
theorem IsY.grownF {l : List Nat} {row : Option Nat} (h : IsY w v l) (hg : w.grownBy w' row) (hne : ∀ g, row = some g → l = [] ∨ v.ownBlock ≠ some g) : IsY w' v l := by
  obtain ⟨A, c, rfl, h1, h2, h3, h4⟩ := h
  refine ⟨A, c, rfl, h1, h2, h3, h4.1, fun hn => ?_⟩
  obtain ⟨ad, rfl, hb, hc⟩ := h4.2 hn
  refine ⟨ad, rfl, Nat.lt_of_lt_of_le hb hg.size, fun j y hj => (World.cell?_of_block (hg.block _ (by rw [block_of_add]; exact hb) fun e => ?_)).trans (hc j y hj)⟩
  rw [block_of_add] at e
  rcases hne _ e.symm with rfl | h
  · simp at hn
  · exact h rfl
theorem IsI.lower {l : List Int} (h : IsI w v l) : l = [] ∨ v.ownBlock ≠ some w.heap.size := by
  obtain ⟨A, c, rfl, h1, h2, h4⟩ := h
  rcases List.eq_nil_or_concat l with rfl | ⟨_, _, rfl⟩
  · exact .inl rfl
  · obtain ⟨ad, rfl, hb, _⟩ := h4.2 (by simp)
    exact .inr fun e => by
      have : ad.block = w.heap.size := by simpa [Value.ownBlock] using e
      omega
theorem IsY.lower {l : List Nat} (h : IsY w v l) : l = [] ∨ v.ownBlock ≠ some w.heap.size := by
  obtain ⟨A, c, rfl, h1, h2, h3, h4⟩ := h
  rcases List.eq_nil_or_concat l with rfl | ⟨_, _, rfl⟩
  · exact .inl rfl
  · obtain ⟨ad, rfl, hb, _⟩ := h4.2 (by simp)
    exact .inr fun e => by
      have : ad.block = w.heap.size := by simpa [Value.ownBlock] using e
      omega
theorem OwnBs.push {es ns : List Eb} {v' : Value} {n : Nat} (hok : OkB w es) (haw : ∀ e ∈ es, AwayE v e ∧ Fresh fl e.2.1 ∧ Fresh fl e.2.2) (hnk : OkB w ns) (hna : ∀ e ∈ ns, AwayE v e ∧ Fresh fl e.2.1 ∧ Fresh fl e.2.2) (hn : n = es.length + ns.length)
    (hown : w'.ownsRow base 43 4 v' n (flatB es ++ flatB ns)) (hg : w.grownBy w' v.ownBlock) (hat : v'.ownBlock = v.ownBlock ∨ v'.ownBlock = some w.heap.size) : OwnBs w' base fl v' (es.map (·.1) ++ ns.map (·.1)) := by
  have hall : ∀ e ∈ es ++ ns, (IsY w e.2.1 e.1.2.2.1 ∧ IsI w e.2.2 e.1.2.2.2) ∧ AwayE v e ∧ Fresh fl e.2.1 ∧ Fresh fl e.2.2 := fun e he => (List.mem_append.1 he).elim (fun h => ⟨hok e h, haw e h⟩) (fun h => ⟨hnk e h, hna e h⟩)
  refine ⟨es ++ ns, by rw [List.map_append], fun e he => ?_, fun e he => ⟨fun g hgv => ?_, (hall e he).2.2⟩, by rw [flatB_append, List.length_append, ← hn]; exact hown⟩
  · obtain ⟨⟨h1, h2⟩, h3, _⟩ := hall e he
    exact ⟨h1.grownF hg fun g e => (h3 g e).1, h2.grownF hg fun g e => (h3 g e).2⟩
  · obtain ⟨⟨h1, h2⟩, h3, _⟩ := hall e he
    rcases hat with h | h
    · exact h3 g (h ▸ hgv)
    · rw [h] at hgv
      obtain rfl := Option.some.inj hgv
      exact ⟨h1.lower, h2.lower⟩
theorem own4_form {e : TypeId} {n : Nat} {xs : List Value} (h : w.ownsRow base e 4 v n xs) : ∃ (A : Option Addr) (c : Nat), v = .slice A n c ∧ n ≤ c ∧ c ≤ 9223372036854775807 ∧ Reads w w.heap.size 4 A n xs := by
  have h0 := h
  rcases h.2 with ⟨rfl, rfl⟩ | ⟨g, cap, cur, rfl, hg, hh, hn, hcap, hs, ht⟩
  · have : xs = [] := List.eq_nil_of_length_eq_zero (by simpa using h.1)
    subst this
    exact ⟨none, 0, rfl, Nat.le_refl _, by omega, Reads.none_⟩
  · exact ⟨_, _, rfl, hn, hcap, Reads.of_own h0⟩
theorem OwnBs.is (h : OwnBs w base fl v bs) : IsBs w v bs := by
  obtain ⟨es, h1, h2, _, h3⟩ := h
  obtain ⟨A, c, e, k1, k2, k3⟩ := own4_form h3
  exact ⟨es, A, c, h1, e, k1, k2, h2, k3⟩
theorem OwnBs.nil (w : World) (base fl : Nat) : OwnBs w base fl (.slice none 0 0) [] := ⟨[], rfl, fun _ h => (nomatch h), fun _ h => (nomatch h), World.ownsRow_nil _ _ _ _⟩
theorem OwnBs.below (h : OwnBs w base fl v bs) (hb : Below w.heap.size w w') : OwnBs w' base fl v bs := by
  obtain ⟨es, h1, h2, h2', h3⟩ := h
  exact ⟨es, h1, h2.below hb, h2', h3.kept (row := none) ⟨hb.os, hb.tape, hb.output, hb.size, fun k hk _ => hb.block k hk⟩ (by cases v.ownBlock <;> simp)⟩
end
theorem OwnBs.set {X i base fl : Nat} {w : World} {v : Value} {bs : List Bk} (h : OwnBs w base fl v bs) (h1 : X < base) (h2 : X < fl) (u : Value) : OwnBs (w.setCell ⟨X, i, none⟩ u) base fl v bs := by
  obtain ⟨es, e1, e2, e3, e4⟩ := h
  refine ⟨es, e1, fun e he => ⟨(e2 e he).1.farB (p := ⟨X, i, none⟩) ((e3 e he).2.1.ne h2) u, (e2 e he).2.farB (p := ⟨X, i, none⟩) ((e3 e he).2.2.ne h2) u⟩, e3, ?_⟩
  refine e4.kept (row := some X) ⟨rfl, rfl, rfl, by simp [World.setCell], fun k _ hne => Below.heap_setCell w ⟨X, i, none⟩ u k (fun e => hne (by rw [e]))⟩ (.inr fun e => ?_)
  have := (e4.lt X e).1; omega
theorem OwnBs.lower {base fl base' fl' : Nat} {w : World} {v : Value} {bs : List Bk} (h : OwnBs w base fl v bs) (hb : base' ≤ base) (hf : fl' ≤ fl) : OwnBs w base' fl' v bs := by
  obtain ⟨es, e1, e2, e3, e4⟩ := h
  refine ⟨es, e1, e2, fun e he => ⟨(e3 e he).1, (e3 e he).2.1.more hf, (e3 e he).2.2.more hf⟩, e4.1, ?_⟩
  rcases e4.2 with h | ⟨g, cap, cur, q1, q2, q3⟩
  · exact .inl h
  · exact .inr ⟨g, cap, cur, q1, by omega, q3⟩
theorem own4_typed {w : World} {base n : Nat} {v : Value} {xs : List Value} (h : w.ownsRow base 43 4 v n xs) {X : Nat} {t : TypeId} {cs : Array Value} (hb : Blk w X t cs) (hne : t ≠ 43) : v.ownBlock ≠ some X := by
  rcases h.2 with ⟨rfl, _⟩ | ⟨g, cap, cur, rfl, hg, hh, _⟩
  · simp [Value.ownBlock]
  · intro e2
    have : g = X := by simpa [Value.ownBlock] using e2
    subst this
    unfold Blk at hb
    rw [hh] at hb
    injection hb with hb
    injection hb with h1 h2 h3
    exact hne h2.symm
/-- behind an append onto such a row -/
theorem below_grown4 {W w1 : World} {b₁ n : Nat} {e : TypeId} {v : Value} {xs : List Value} {tmp : Obj} (hrow : W.ownsRow b₁ e 4 v n xs) (hb₁ : b₁ ≤ W.heap.size) (hgrow : (W.alloc tmp).grownBy w1 v.ownBlock) :
    Below b₁ W w1 ∧ ∀ (k : Nat) (o : Obj), W.heap[k]? = some o → o.isCells = false → w1.heap[k]? = some o := by
  refine ⟨((Below.refl b₁ W).alloc hb₁ tmp).grown hgrow (by simp; omega) fun j ej => (hrow.lt j ej).1, fun k o hk ho => ?_⟩
  have hlt : k < W.heap.size := (Array.getElem?_eq_some_iff.1 hk).1
  refine (hgrow.block k (by simp; omega) fun ek => ?_).trans ((Below.heap_alloc W tmp k hlt).trans hk)
  rcases hrow.2 with ⟨rfl, _⟩ | ⟨g, cap, cur, rfl, _, hgb, _⟩
  · simp [Value.ownBlock] at ek
  · obtain rfl : k = g := by simpa [Value.ownBlock] using ek
    rw [hgb] at hk; cases hk; cases ho
theorem lit4_cells (w : World) (t : TypeId) (a b c d : Value) : ∀ j u, [a, b, c, d][j]? = some u → (w.alloc (.cells #[a, b, c, d] t)).cell? ((⟨w.heap.size, 0, none⟩ : Addr).add j) = some u := by
  intro j u hu
  have hj : (⟨w.heap.size, 0, none⟩ : Addr).add j = ⟨w.heap.size, j, none⟩ := by
    unfold Addr.add
    by_cases h : j = 0
    · subst h; rfl
    · rw [if_neg h, Nat.zero_add]
  rw [hj, (Blk.new w t #[a, b, c, d]).cell j, ← hu]
  simp
theorem info_blk : (Tryz.prog.info? 43).map (fun i => (i.zero, i.size, i.bytes)) = some (some (.agg #[.int .i64 0, .int .i64 0, .slice none 0 0, .slice none 0 0]), 4, 64) := by kernel_rfl
end Go.Proofs.YtochabikpaoalaaGreat
