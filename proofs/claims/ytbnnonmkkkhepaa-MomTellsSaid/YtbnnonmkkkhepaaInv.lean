/- A region that draws its order, by ONE condition on what has come up so far: each operation is walked once, whatever came ahead of it. -/
import Derived.Test.YtbnnonmkkkhepaaBase
import Derived.Deep.RegionHeld3
namespace Go.Proofs.Ytbnnonmkkkhepaa
open Go.RowKit
section
variable {P : Program} {ops : Array Oper} {Q : Exit → Act → World → Prop} {md : Region.Mode} {S : World → Prop}
theorem getD_true {l : Array Bool} {i : Nat} (h : l.getD i true = false) : ∃ h' : i < l.size, l[i] = false := by
  rcases Nat.lt_or_ge i l.size with h' | h'
  · exact ⟨h', by simpa [h'] using h⟩
  · rw [Array.getD_eq_getD_getElem?, Array.getElem?_eq_none h'] at h; cases h
/-- **ONE CONDITION FOR THE WHOLE REGION**: I says what is known of the state when just these operations have come up. -/
theorem wpAnyH_inv (I : Array Bool → Act → World → Prop)
    (hord : ∀ (i : Nat) (o : Oper), ops[i]? = some o → ∀ e ∈ o.after, Region.binds md e = true → e.on < i)
    (hsz : ∀ l a w, I l a w → l.size = ops.size)
    (hdone : ∀ l a w, I l a w → (∀ i, i < ops.size → l.getD i false = true) → Q .normal a w)
    (hstep : ∀ (l : Array Bool) (a : Act) (w : World) (i : Nat) (o : Oper), I l a w → ops[i]? = some o → l.getD i true = false → (∀ e ∈ o.after, Region.binds md e = true → l.getD e.on false = true) →
      wpOp P ops Q i (fun a' w' => S w' ∧ I (l.setIfInBounds i true) a' w') a w) :
    ∀ fuel l a w, I l a w → l.count false ≤ fuel → wpAnyH P md ops Q S fuel l a w := by
  have hall : ∀ l a w, I l a w → Region.ready md ops l = [] → ∀ i, i < ops.size → l.getD i false = true := by
    intro l a w hI hr i
    induction i using Nat.strongRecOn with
    | _ i ih =>
      intro hi
      cases h : l.getD i true
      · exfalso
        have ho : ops[i]? = some ops[i] := Array.getElem?_eq_getElem hi
        have : i ∈ Region.ready md ops l := mem_ready.2 ⟨h, _, ho, fun e he hb => ih e.on (hord i _ ho e he hb) (Nat.lt_trans (hord i _ ho e he hb) hi)⟩
        rw [hr] at this; cases this
      · have hs := hsz l a w hI
        have hi' : i < l.size := by omega
        simp [hi'] at h ⊢
        exact h
  intro fuel
  induction fuel with
  | zero =>
    intro l a w hI hc
    have hr : Region.ready md ops l = [] := by
      rw [List.eq_nil_iff_forall_not_mem]
      intro i hi
      obtain ⟨h', hf⟩ := getD_true (mem_ready.1 hi).1
      have : 0 < l.count false := Array.count_pos_iff.2 (hf ▸ Array.getElem_mem h')
      omega
    exact ⟨hr, hdone l a w hI (hall l a w hI hr)⟩
  | succ fuel ih =>
    intro l a w hI hc
    refine ⟨fun hr => hdone l a w hI (hall l a w hI hr), fun i hi => ?_⟩
    obtain ⟨h1, o, ho, h2⟩ := mem_ready.1 hi
    obtain ⟨h', hf⟩ := getD_true h1
    refine wpOp_mono (fun a' w' h => ⟨h.1, ih _ a' w' h.2 ?_⟩) (hstep l a w i o hI ho h1 h2)
    rw [Array.setIfInBounds_def, dif_pos h']
    have := Array.count_set (a := true) (b := false) h'
    rw [this, hf]
    have : 0 < l.count false := Array.count_pos_iff.2 (hf ▸ Array.getElem_mem h')
    simp
    omega
/-- The same, each step handed over behind a '∀ K' (as AllReadyH.cons hands it over). -/
theorem wpAnyH_invK (I : Array Bool → Act → World → Prop)
    (hord : ∀ (i : Nat) (o : Oper), ops[i]? = some o → ∀ e ∈ o.after, Region.binds md e = true → e.on < i)
    (hsz : ∀ l a w, I l a w → l.size = ops.size)
    (hdone : ∀ l a w, I l a w → (∀ i, i < ops.size → l.getD i false = true) → Q .normal a w)
    (hstep : ∀ (l : Array Bool) (a : Act) (w : World) (i : Nat) (o : Oper), I l a w → ops[i]? = some o → l.getD i true = false → (∀ e ∈ o.after, Region.binds md e = true → l.getD e.on false = true) →
      ∀ K : Act → World → Prop, Shut (∀ a' w', S w' → I (l.setIfInBounds i true) a' w' → K a' w') → if Region.wanted o (yielded ops a.tmps) = true then Oper.wp P o a w K Q else K (a.put o.dst undef) w)
    {fuel : Nat} {l : Array Bool} {a : Act} {w : World} (hI : I l a w) (hc : l.count false ≤ fuel) : wpAnyH P md ops Q S fuel l a w :=
  wpAnyH_inv I hord hsz hdone (fun l a w i o h1 h2 h3 h4 => wpOp_step h2 (fun K hK => hstep l a w i o h1 h2 h3 h4 K (fun a' w' hS hI => hK a' w' ⟨hS, hI⟩))) fuel l a w hI hc
/-- ONE CONDITION FOR A REGION'S FIRST PART: from where 'T' holds, it is walked on otherwise. -/
theorem wpAnyH_until (I : Array Bool → Act → World → Prop) (T : Array Bool → Bool)
    (hord : ∀ (i : Nat) (o : Oper), ops[i]? = some o → ∀ e ∈ o.after, Region.binds md e = true → e.on < i)
    (hsz : ∀ l a w, I l a w → l.size = ops.size)
    (hT : ∀ l a w, I l a w → (∀ i, i < ops.size → l.getD i false = true) → T l = true)
    (hgo : ∀ fuel l a w, I l a w → T l = true → l.count false ≤ fuel → wpAnyH P md ops Q S fuel l a w)
    (hstep : ∀ (l : Array Bool) (a : Act) (w : World) (i : Nat) (o : Oper), I l a w → T l = false → ops[i]? = some o → l.getD i true = false → (∀ e ∈ o.after, Region.binds md e = true → l.getD e.on false = true) →
      ∀ K : Act → World → Prop, Shut (∀ a' w', S w' → I (l.setIfInBounds i true) a' w' → K a' w') → if Region.wanted o (yielded ops a.tmps) = true then Oper.wp P o a w K Q else K (a.put o.dst undef) w) :
    ∀ fuel l a w, I l a w → l.count false ≤ fuel → wpAnyH P md ops Q S fuel l a w := by
  have hall : ∀ l a w, I l a w → Region.ready md ops l = [] → ∀ i, i < ops.size → l.getD i false = true := by
    intro l a w hI hr i
    induction i using Nat.strongRecOn with
    | _ i ih =>
      intro hi
      cases h : l.getD i true
      · exfalso
        have ho : ops[i]? = some ops[i] := Array.getElem?_eq_getElem hi
        have : i ∈ Region.ready md ops l := mem_ready.2 ⟨h, _, ho, fun e he hb => ih e.on (hord i _ ho e he hb) (Nat.lt_trans (hord i _ ho e he hb) hi)⟩
        rw [hr] at this; cases this
      · have hs := hsz l a w hI
        have hi' : i < l.size := by omega
        simp [hi'] at h ⊢
        exact h
  intro fuel
  induction fuel with
  | zero =>
    intro l a w hI hc
    cases hTl : T l
    · exfalso
      have hr : Region.ready md ops l = [] := by
        rw [List.eq_nil_iff_forall_not_mem]
        intro i hi
        obtain ⟨h', hf⟩ := getD_true (mem_ready.1 hi).1
        have : 0 < l.count false := Array.count_pos_iff.2 (hf ▸ Array.getElem_mem h')
        omega
      rw [hT l a w hI (hall l a w hI hr)] at hTl; cases hTl
    · exact hgo 0 l a w hI hTl hc
  | succ fuel ih =>
    intro l a w hI hc
    cases hTl : T l
    · refine ⟨fun hr => ?_, fun i hi => ?_⟩
      · rw [hT l a w hI (hall l a w hI hr)] at hTl; cases hTl
      · obtain ⟨h1, o, ho, h2⟩ := mem_ready.1 hi
        obtain ⟨h', hf⟩ := getD_true h1
        refine wpOp_step ho (fun K hK => hstep l a w i o hI hTl ho h1 h2 K (fun a' w' hS hI => hK a' w' ⟨hS, ih _ a' w' hI ?_⟩))
        rw [Array.setIfInBounds_def, dif_pos h']
        have := Array.count_set (a := true) (b := false) h'
        rw [this, hf]
        have : 0 < l.count false := Array.count_pos_iff.2 (hf ▸ Array.getElem_mem h')
        simp
        omega
    · exact hgo (fuel + 1) l a w hI hTl hc
end
theorem wpAnyH_merge {P : Program} {ops : Array Oper} {Q : Exit → Act → World → Prop} {md : Region.Mode} {S : World → Prop} {fuel : Nat} {L : Array Bool} {a : Act} {w : World} (n : Nat) (L' : Array Bool) (a' : Act)
    (h2 : ∀ m, wpAnyH P md ops Q S (m + n) L' a' w) (h : (∀ m, wpAnyH P md ops Q S (m + n) L' a' w) → wpAnyH P md ops Q S fuel L a w) : wpAnyH P md ops Q S fuel L a w := h h2
theorem hord_of {ops : Array Oper} {md : Region.Mode} (h : ((List.range ops.size).all fun i => ((ops[i]?).map fun o => o.after.all fun e => !Region.binds md e || decide (e.on < i)).getD true) = true) : ∀ (i : Nat) (o : Oper), ops[i]? = some o → ∀ e ∈ o.after, Region.binds md e = true → e.on < i := by
  intro i o ho e he hb
  have hi : i < ops.size := by
    rcases Nat.lt_or_ge i ops.size with h' | h'
    · exact h'
    · rw [Array.getElem?_eq_none h'] at ho; cases ho
  have := List.all_eq_true.1 h i (List.mem_range.2 hi)
  rw [ho] at this
  simp only [Option.map_some, Option.getD_some] at this
  have := Array.all_eq_true_iff_forall_mem.1 this e he
  rw [hb] at this
  exact of_decide_eq_true (by simpa using this)
/-- A block that the region makes itself, if it has come up. -/
def Got (t : TypeId) (c : Array Value) (B : Nat) (w : World) (b : Bool) (x : Value) (n : Nat) : Prop := b = true → x = .pointer (some ⟨n, 0, none⟩) ∧ B ≤ n ∧ Blk w n t c
def Twain (b b' : Bool) (n n' : Nat) : Prop := b = true → b' = true → n ≠ n'
section
variable {t t' : TypeId} {c c' : Array Value} {B n n' : Nat} {w w' : World} {b b' : Bool} {x y : Value}
theorem Blk.st2 {a d u v : Value} (h : Blk w n t #[a, d]) : Blk ((w.setCell ⟨n, 0, none⟩ u).setCell ⟨n, 1, none⟩ v) n t #[u, v] := by
  have := (h.set_ 0 u).set_ 1 v
  simpa using this
theorem Blk.far2n {u v : Value} (h : Blk w n t c) (hn : n ≠ n') : Blk ((w.setCell ⟨n', 0, none⟩ u).setCell ⟨n', 1, none⟩ v) n t c := (h.far (p := ⟨n', 0, none⟩) hn u).far (p := ⟨n', 1, none⟩) hn v
theorem Got.below (h : Got t c B w b x n) (hb : Below w.heap.size w w') : Got t c B w' b x n := fun e => ⟨(h e).1, (h e).2.1, (h e).2.2.below hb (h e).2.2.lt⟩
theorem Got.alloc (h : Got t c B w b x n) (o : Obj) : Got t c B (w.alloc o) b x n := fun e => ⟨(h e).1, (h e).2.1, (h e).2.2.alloc o⟩
theorem Got.drew (h : Got t c B w b x n) : Got t c B w.drew b x n := h
theorem Got.no : Got t c B w false x n := fun e => nomatch e
theorem Got.new (h : B ≤ w.heap.size) : Got t c B (w.alloc (.cells c t)) true (.pointer (some ⟨w.heap.size, 0, none⟩)) w.heap.size := fun _ => ⟨rfl, h, Blk.new w t c⟩
theorem Got.twain (h : Got t c B w b x n) : Twain b b' n w.heap.size := fun e _ => by have := (h e).2.2.lt; omega
theorem Got.twain' (h : Got t c B w b x n) : Twain b' b w.heap.size n := fun _ e => by have := (h e).2.2.lt; omega
end
end Go.Proofs.Ytbnnonmkkkhepaa
