/- Keeps, and what is kept in blocks, opened. -/
import Derived.Test.YtochabikpaoalaaGreatBlks
import Derived.Test.YtochabikpaoalaaGreatLaw11
import Derived.Deep.Slices
namespace Go.Proofs.YtochabikpaoalaaGreat
open Go.ChangeShapes Go.WideShapes Go.ChangeAt Go.RowKit Go.Joins Go.Deep
/-- what every block that comes in is -/
def BkIn (b : Bk) : Prop := I64 b.1 ∧ I64 b.2.1 ∧ (∀ x ∈ b.2.2.2, I64 x) ∧ b.2.2.1.length ≤ 140737488351232 ∧ b.2.2.2.length ≤ 17592186044416
theorem list_of {α : Type} {P : Nat → α → Prop} : ∀ n, (∀ i, i < n → ∃ e, P i e) → ∃ es : List α, es.length = n ∧ ∀ i e, es[i]? = some e → P i e
  | 0, _ => ⟨[], rfl, fun i e h => by simp at h⟩
  | n + 1, h => by
    obtain ⟨es, hl, hp⟩ := list_of n fun i hi => h i (by omega)
    obtain ⟨e, he⟩ := h n (by omega)
    refine ⟨es ++ [e], by simp [hl], fun i x hx => ?_⟩
    rcases Nat.lt_or_ge i n with h' | h'
    · rw [List.getElem?_append_left (by omega)] at hx
      exact hp i x hx
    · have hin : i = n := by
        rcases Nat.eq_or_lt_of_le h' with h2 | h2
        · exact h2.symm
        · rw [List.getElem?_eq_none (by simp [hl]; omega)] at hx; cases hx
      subst hin
      rw [List.getElem?_append_right (by omega), hl, Nat.sub_self] at hx
      obtain rfl : e = x := by simpa using hx
      exact he
section
variable {H : Type} {enc : TypeId × Value → H} {W : World}
theorem cells_u8s : Tryz.prog.cellsOf 41 = 1 := by kernel_rfl
theorem cells_i64s : Tryz.prog.cellsOf 34 = 1 := by kernel_rfl
theorem cells_intk : Tryz.prog.cellsOf 3 = 1 := by kernel_rfl
theorem cells_i64k : Tryz.prog.cellsOf 2 = 1 := by kernel_rfl
theorem cells_blk : Tryz.prog.cellsOf 43 = 4 := by kernel_rfl
theorem cells_blks : Tryz.prog.cellsOf 24 = 1 := by kernel_rfl
theorem cells_keep : Tryz.prog.cellsOf 23 = 4 := by kernel_rfl
theorem cells_store : Tryz.prog.cellsOf 26 = 6 := by kernel_rfl
set_option maxRecDepth 100000 in
theorem open_block4c {fuel : Nat} {c0 c1 c2 c3 : Value} {x : DataW H × List MemPlace} (h : DataW.trod enc Tryz.prog W 0 (fun _ => true) true fuel 43 [c0, c1, c2, c3] = some x)
    (hlt : ∀ p ∈ x.2, p.block < W.heap.size) (hz : ∀ n ∈ x.1.weights Tryz.prog 43, n ≤ reachBytes) :
    ∃ k s cs wd, c0 = .int .i64 k ∧ c1 = .int .i64 s ∧ IsY W c2 cs ∧ IsI W c3 wd ∧ BkIn (k, s, cs, wd) := by
  obtain ⟨xs, n, rfl, rfl, _, hl, h1⟩ := DataW.trod_struct Tryz.underlying43 h
  match xs, hl with
  | [y0, y1, y2, y3], _ =>
    have a0 : DataW.trod enc Tryz.prog W 0 (fun _ => true) true n 3 [c0] = some y0 := by
      have this : DataW.trod enc Tryz.prog W 0 (fun _ => true) true n 3 (([c0, c1, c2, c3].drop 0).take (Tryz.prog.cellsOf 3)) = some y0 := h1 0 _ rfl
      rw [cells_intk] at this
      exact this
    have a1 : DataW.trod enc Tryz.prog W 0 (fun _ => true) true n 2 [c1] = some y1 := by
      have this : DataW.trod enc Tryz.prog W 0 (fun _ => true) true n 2 (([c0, c1, c2, c3].drop 1).take (Tryz.prog.cellsOf 2)) = some y1 := h1 1 _ rfl
      rw [cells_i64k] at this
      exact this
    have a2 : DataW.trod enc Tryz.prog W 0 (fun _ => true) true n 41 [c2] = some y2 := by
      have this : DataW.trod enc Tryz.prog W 0 (fun _ => true) true n 41 (([c0, c1, c2, c3].drop 2).take (Tryz.prog.cellsOf 41)) = some y2 := h1 2 _ rfl
      rw [cells_u8s] at this
      exact this
    have a3 : DataW.trod enc Tryz.prog W 0 (fun _ => true) true n 34 [c3] = some y3 := by
      have this : DataW.trod enc Tryz.prog W 0 (fun _ => true) true n 34 (([c0, c1, c2, c3].drop 3).take (Tryz.prog.cellsOf 34)) = some y3 := h1 3 _ rfl
      rw [cells_i64s] at this
      exact this
    have hz' : ∀ n ∈ DataW.weightsEach Tryz.prog [3, 2, 41, 34] [y0.1, y1.1, y2.1, y3.1], n ≤ reachBytes := by
      have e := Tryz.underlying43
      simp only [DataW.weights, e] at hz
      exact hz
    obtain ⟨k, e0, _, w0⟩ := DataW.trod_int Tryz.underlying3 a0
    obtain ⟨s, e1, _, w1⟩ := DataW.trod_int Tryz.underlying2 a1
    simp at e0 e1
    subst e0 e1
    obtain ⟨cs, iC, lC⟩ := open_u8k Tryz.underlying41 a2 (fun p hp => hlt p (by simp [hp])) (weights_at11 hz' (j := 2) rfl rfl)
    obtain ⟨wd, iD, aD, lD⟩ := open_i64k Tryz.underlying34 a3 (fun p hp => hlt p (by simp [hp])) (weights_at11 hz' (j := 3) rfl rfl)
    exact ⟨k, s, cs, wd, rfl, rfl, iC, iD, wf_I64 w0, wf_I64 w1, aD, lC, lD⟩
theorem weightsAll_mem {P : Program} {t : TypeId} {d : DataW H} : ∀ {ds : List (DataW H)}, d ∈ ds → ∀ n ∈ d.weights P t, n ∈ DataW.weightsAll P t ds
  | [], h, _, _ => (nomatch h)
  | x :: r, h, n, hn => by
    simp only [DataW.weightsAll, List.mem_append]
    rcases List.mem_cons.1 h with rfl | h
    · exact .inl hn
    · exact .inr (weightsAll_mem h n hn)
set_option maxRecDepth 100000 in
theorem open_blks {fuel : Nat} {v : Value} {x : DataW H × List MemPlace} (h : DataW.trod enc Tryz.prog W 0 (fun _ => true) true fuel 24 [v] = some x) (hlt : ∀ p ∈ x.2, p.block < W.heap.size)
    (hz : ∀ n ∈ x.1.weights Tryz.prog 24, n ≤ reachBytes) : ∃ bs, IsBs W v bs ∧ ∀ b ∈ bs, BkIn b := by
  rcases open_slice Tryz.underlying24 h with ⟨hcs, hx⟩ | ⟨a, len, cap, m, n, D, Pl, hcs, _, hl, hm, hmm, hx, hi⟩
  · simp at hcs
    subst hcs
    exact ⟨[], IsBs.nil W, by simp⟩
  · simp at hcs
    subst hcs
    subst hx
    simp only [if_true] at hmm
    subst hmm
    unfold maxLen at hm
    rw [cells_blk] at hi hlt
    have hel : ∀ i, i < len → ∃ e : Eb, (∀ j, j < 4 → W.cell? (a.add (i * 4 + j)) = (cellsE e)[j]?) ∧ IsY W e.2.1 e.1.2.2.1 ∧ IsI W e.2.2 e.1.2.2.2 ∧ BkIn e.1 := by
      intro i him
      obtain ⟨cs', hc, ht'⟩ := hi i (by omega)
      obtain ⟨_, hcl, hat⟩ := World.cells?_some hc
      match cs', hcl with
      | [c0, c1, c2, c3], _ =>
        obtain ⟨k, s, cs, wd, rfl, rfl, q1, q2, q3⟩ := open_block4c ht' (fun p hp => hlt p (by
          simp only [List.mem_append, List.mem_flatMap, List.mem_range]
          exact .inr ⟨i, by omega, hp⟩)) (fun q hq => hz q (by
            have e := Tryz.underlying24
            simp only [DataW.weights, e, List.mem_cons, List.mem_append]
            have hd : D i ∈ (List.range len).map D := List.mem_map.2 ⟨i, List.mem_range.2 him, rfl⟩
            have := weightsAll_mem hd q hq
            first | exact .inr (.inl this) | exact .inl (.inr this) | (simp [this]; done)))
        refine ⟨((k, s, cs, wd), c2, c3), fun j hj => ?_, q1, q2, q3⟩
        have := hat j hj
        rw [add_of_add] at this
        rw [this]; rfl
    obtain ⟨es, hes, hp⟩ := list_of len hel
    refine ⟨es.map (·.1), ⟨es, some a, m, rfl, by rw [hes], by omega, by omega, fun e he => ?_, by rw [flatB_len], fun h0 => ⟨a, rfl, ?_, fun j u hu => ?_⟩⟩, fun b hb => ?_⟩
    · obtain ⟨i, hi'⟩ := List.getElem?_of_mem he
      exact ⟨(hp _ _ hi').2.1, (hp _ _ hi').2.2.1⟩
    · obtain ⟨b, off, spot⟩ := a
      have hx := hp 0 es[0] (List.getElem?_eq_getElem (by omega))
      have hspot : spot = none := by simpa [Addr.add] using World.cell?_spot (hx.1 0 (by omega))
      subst hspot
      exact hlt (.cell b off) (List.mem_append_left _ (MemPlace.mem_row.2 ⟨0, by omega, by simp⟩))
    · have hj : j < es.length * 4 := by
        rcases Nat.lt_or_ge j (es.length * 4) with h' | h'
        · exact h'
        · rw [List.getElem?_eq_none (by rw [flatB_len]; exact h')] at hu; cases hu
      have hq : j / 4 < es.length := by omega
      have hx := (hp (j / 4) es[j / 4] (List.getElem?_eq_getElem hq)).1 (j % 4) (Nat.mod_lt _ (by omega))
      have hf := flatB_at es (j / 4) (j % 4) _ (List.getElem?_eq_getElem hq) (Nat.mod_lt _ (by omega))
      have ej : j / 4 * 4 + j % 4 = j := by omega
      rw [ej] at hx hf
      rw [hx, ← hf, hu]
    · obtain ⟨e, he, rfl⟩ := List.mem_map.1 hb
      obtain ⟨i, hi'⟩ := List.getElem?_of_mem he
      exact (hp _ _ hi').2.2.2
end
/-- the value is this, kept -/
def IsSt (w : World) (v : Value) (s : St) : Prop := ∃ x, v = .agg #[.int .i64 s.1, .int .i64 s.2.1, .int .i64 s.2.2.1, .int .i64 s.2.2.2.1, .int .i64 s.2.2.2.2.1, x] ∧ IsBs w x s.2.2.2.2.2
theorem IsSt.below {w w' : World} {v : Value} {s : St} (h : IsSt w v s) (hb : Below w.heap.size w w') : IsSt w' v s := by
  obtain ⟨x, e, h⟩ := h; exact ⟨x, e, h.below hb⟩
section
variable {H : Type} {enc : TypeId × Value → H} {W : World}
set_option maxRecDepth 100000 in
theorem open_keep {base : Nat} {v : Value} {d : DataW H} {p : List MemPlace} (hv : Value.okWide Tryz.prog W .any base 23 v) (h : DataW.Trod enc Tryz.prog W 0 (fun _ => true) true 23 v d p) :
    ∃ k z m o, v = .agg #[.int .i64 k, .int .i64 z, .int .i64 m, .int .i64 o] ∧ I64 k ∧ I64 z ∧ I64 m ∧ I64 o := by
  obtain ⟨v0, v1, v2, v3, y0, y1, y2, y3, n, rfl, rfl, rfl, h0, h1, h2, h3⟩ := open_agg4 Tryz.underlying23 (by kernel_rfl) (by kernel_rfl) hv h
  obtain ⟨k, e0, _, w0⟩ := DataW.trod_int Tryz.underlying3 h0
  obtain ⟨z, e1, _, w1⟩ := DataW.trod_int Tryz.underlying3 h1
  obtain ⟨m, e2, _, w2⟩ := DataW.trod_int Tryz.underlying3 h2
  obtain ⟨o, e3, _, w3⟩ := DataW.trod_int Tryz.underlying2 h3
  simp at e0 e1 e2 e3
  subst e0 e1 e2 e3
  exact ⟨k, z, m, o, rfl, wf_I64 w0, wf_I64 w1, wf_I64 w2, wf_I64 w3⟩
set_option maxRecDepth 100000 in
theorem open_store {base : Nat} {v : Value} {d : DataW H} {p : List MemPlace} (hv : Value.okWide Tryz.prog W .any base 26 v) (h : DataW.Trod enc Tryz.prog W 0 (fun _ => true) true 26 v d p)
    (hlt : ∀ x ∈ p, x.block < W.heap.size) (hz : ∀ n ∈ d.weights Tryz.prog 26, n ≤ reachBytes) :
    ∃ s : St, IsSt W v s ∧ (I64 s.1 ∧ I64 s.2.1 ∧ I64 s.2.2.1 ∧ I64 s.2.2.2.1 ∧ I64 s.2.2.2.2.1) ∧ ∀ b ∈ s.2.2.2.2.2, BkIn b := by
  obtain ⟨cs, rfl, hsz⟩ := okWide_struct Tryz.underlying26 hv
  obtain ⟨l⟩ := cs
  match l, hsz.trans cells_store with
  | [c0, c1, c2, c3, c4, c5], _ =>
    obtain ⟨fuel, hf⟩ := h
    obtain ⟨xs, n, _, hx, _, hlen, hg⟩ := DataW.trod_struct Tryz.underlying26 hf
    match xs, hlen with
    | [y0, y1, y2], _ =>
      obtain ⟨rfl, rfl⟩ := Prod.mk.inj hx
      have a0 : DataW.trod enc Tryz.prog W 0 (fun _ => true) true n 23 (([c0, c1, c2, c3, c4, c5].drop 0).take (Tryz.prog.cellsOf 23)) = some y0 := hg 0 _ rfl
      have a1 : DataW.trod enc Tryz.prog W 0 (fun _ => true) true n 3 (([c0, c1, c2, c3, c4, c5].drop 4).take (Tryz.prog.cellsOf 3)) = some y1 := hg 1 _ rfl
      have a2 : DataW.trod enc Tryz.prog W 0 (fun _ => true) true n 24 (([c0, c1, c2, c3, c4, c5].drop 5).take (Tryz.prog.cellsOf 24)) = some y2 := hg 2 _ rfl
      rw [cells_keep] at a0
      rw [cells_intk] at a1
      rw [cells_blks] at a2
      have hz' : ∀ n ∈ DataW.weightsEach Tryz.prog [23, 3, 24] [y0.1, y1.1, y2.1], n ≤ reachBytes := by
        have e := Tryz.underlying26
        simp only [DataW.weights, e] at hz
        exact hz
      obtain ⟨zs, n2, _, hx2, _, hlen2, hg2⟩ := DataW.trod_struct Tryz.underlying23 a0
      match zs, hlen2 with
      | [z0, z1, z2, z3], _ =>
        have b0 : DataW.trod enc Tryz.prog W 0 (fun _ => true) true n2 3 (([c0, c1, c2, c3].drop 0).take (Tryz.prog.cellsOf 3)) = some z0 := hg2 0 _ rfl
        have b1 : DataW.trod enc Tryz.prog W 0 (fun _ => true) true n2 3 (([c0, c1, c2, c3].drop 1).take (Tryz.prog.cellsOf 3)) = some z1 := hg2 1 _ rfl
        have b2 : DataW.trod enc Tryz.prog W 0 (fun _ => true) true n2 3 (([c0, c1, c2, c3].drop 2).take (Tryz.prog.cellsOf 3)) = some z2 := hg2 2 _ rfl
        have b3 : DataW.trod enc Tryz.prog W 0 (fun _ => true) true n2 2 (([c0, c1, c2, c3].drop 3).take (Tryz.prog.cellsOf 2)) = some z3 := hg2 3 _ rfl
        rw [cells_intk] at b0 b1 b2
        rw [cells_i64k] at b3
        obtain ⟨k, e0, _, w0⟩ := DataW.trod_int Tryz.underlying3 b0
        obtain ⟨z, e1, _, w1⟩ := DataW.trod_int Tryz.underlying3 b1
        obtain ⟨m, e2, _, w2⟩ := DataW.trod_int Tryz.underlying3 b2
        obtain ⟨o, e3, _, w3⟩ := DataW.trod_int Tryz.underlying2 b3
        obtain ⟨q, e4, _, w4⟩ := DataW.trod_int Tryz.underlying3 a1
        simp at e0 e1 e2 e3 e4
        subst e0 e1 e2 e3 e4
        obtain ⟨bs, hb, hin⟩ := open_blks (show DataW.trod enc Tryz.prog W 0 (fun _ => true) true n 24 [c5] = some y2 from a2) (fun p hp => hlt p (by simp [hp])) (weights_at11 hz' (j := 2) rfl rfl)
        exact ⟨(k, z, m, o, q, bs), ⟨c5, rfl, hb⟩, ⟨wf_I64 w0, wf_I64 w1, wf_I64 w2, wf_I64 w3, wf_I64 w4⟩, hin⟩
end
end Go.Proofs.YtochabikpaoalaaGreat
