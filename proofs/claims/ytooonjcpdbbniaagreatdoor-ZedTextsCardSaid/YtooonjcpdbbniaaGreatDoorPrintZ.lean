/- zed.Print: an integer's text. -/
import Derived.Test.YtooonjcpdbbniaaGreatDoorTextP
import Derived.Test.YtooonjcpdbbniaaGreatDoorDivMod1
import Derived.Test.YtooonjcpdbbniaaGreatDoorShelf04
import Derived.Test.YtooonjcpdbbniaaGreatDoorShelf04b
import Derived.Test.YtooonjcpdbbniaaGreatDoorFmt04
import Derived.Deep.AppendLies
import Derived.Lib.ItoaNum
import Derived.Sort.OwnSorted
namespace Go.Proofs.YtooonjcpdbbniaaGreatDoor
open Go.RowKit Go.Lib
attribute [local go_sem ↓] Go.wp_at_zero Go.wp_at_succ
/-- a text's value -/
abbrev strV (l : List UInt8) : Value := .string ⟨l.toArray⟩
def strs (ps : List (List UInt8)) : List Value := ps.map strV
theorem strs_len (ps : List (List UInt8)) : (strs ps).length = ps.length := by simp [strs]
theorem strs_snoc (ps : List (List UInt8)) (s : List UInt8) : strs (ps ++ [s]) = strs ps ++ [strV s] := by simp [strs]
theorem dec_len (k : Nat) : ∀ (u : Nat), 0 < k → u < 10 ^ k → (decDigits u).length ≤ k := by
  induction k with
  | zero => intro u h; omega
  | succ k ih =>
    intro u _ h
    by_cases hu : u < 10
    · rw [dec_small hu]; simp
    · rw [dec_big hu, List.length_append, List.length_singleton]
      have hk : 0 < k := by
        rcases Nat.eq_zero_or_pos k with e | e
        · subst e; simp at h; omega
        · exact e
      have := ih (u / 10) hk (by rw [Nat.pow_succ] at h; exact Nat.div_lt_of_lt_mul (by rw [Nat.mul_comm]; exact h))
      omega
theorem flat_ge : ∀ (ps : List (List UInt8)), (∀ s ∈ ps, s ≠ []) → ps.length ≤ ps.flatten.length
  | [], _ => by simp
  | s :: r, h => by
    have h1 := flat_ge r fun x hx => h x (List.mem_cons_of_mem _ hx)
    have h2 : 0 < s.length := List.length_pos_iff.2 (h s (List.mem_cons_self ..))
    rw [List.flatten_cons, List.length_append, List.length_cons]; omega
theorem PrintAt.few {n0 n : Nat} {ps : List (List UInt8)} (h : PrintAt n0 n ps) (hs : ∀ s ∈ ps, s ≠ []) : ps.length ≤ (decDigits n0).length := by
  rcases h with ⟨rfl, _⟩ | ⟨_, h⟩
  · simp
  · have := flat_ge ps.reverse (fun s hs' => hs s (by simpa using hs'))
    rw [h, List.length_append]; simp at this ⊢; omega
theorem IsL.grownFar {w w' : World} {v : Value} {l : List Nat} {row : Option Nat} (h : IsL w v l) (hg : w.grownBy w' row) (hne : ∀ g, v.ownBlock = some g → row ≠ some g) : IsL w' v l := by
  obtain ⟨A, c, rfl, h1, h2, h3, h4⟩ := h
  refine ⟨A, c, rfl, h1, h2, h3, h4.1, fun hn => ?_⟩
  obtain ⟨ad, rfl, hb, hc⟩ := h4.2 hn
  refine ⟨ad, rfl, Nat.lt_of_lt_of_le hb hg.size, fun j y hj => ?_⟩
  rw [← hc j y hj]
  exact World.cell?_of_block (by rw [block_of_add]; exact hg.block _ hb fun e => hne ad.block rfl e.symm)
theorem info_str : (Tryz.prog.info? 9).map (fun i => (i.zero, i.size, i.bytes)) = some (some (.string ⟨#[]⟩), 1, 16) := by kernel_rfl
theorem str_add (a b : List UInt8) : (⟨a.toArray⟩ : ByteArray) ++ ⟨b.toArray⟩ = ⟨(a ++ b).toArray⟩ := by
  apply ByteArray.ext
  show (ByteArray.append _ _).data = _
  simp
theorem reps (k : Nat) (c : UInt8) : Lib.repeatL [c] k = List.replicate k c := by
  induction k with
  | zero => rfl
  | succ k ih => show [c] ++ Lib.repeatL [c] k = _; rw [ih, List.replicate_succ]; rfl
theorem join_flat (xs : List (List UInt8)) : Lib.join xs [] = xs.flatten := by
  show List.intercalate [] xs = _
  induction xs with
  | nil => rfl
  | cons x r ih =>
    rcases r with _ | ⟨y, r⟩
    · simp [List.intercalate, List.intersperse]
    · rw [List.flatten_cons, ← ih]; simp [List.intercalate, List.intersperse]
theorem holds_strs {w : World} {base g n cap : Nat} {e : TypeId} {ps : List (List UInt8)} (h : w.ownsRow base e 1 (.slice (some ⟨g, 0, none⟩) n cap) ps.length (strs ps)) : Sort.Holds encStr w g 0 ps.toArray := by
  rcases h.2 with ⟨h0, _⟩ | ⟨g', cap', cur, e', _, hg, hn, _, hs, ht⟩
  · cases h0
  · cases e'
    intro j hj
    have hj' : j < ps.length := by simpa using hj
    have hc : cur[j]? = some (strV ps[j]) := by
      have : (cur.toList.take (ps.length * 1))[j]? = some (strV ps[j]) := by rw [ht]; simp [strs, hj']
      rw [List.getElem?_take, if_pos (by omega)] at this
      simpa using this
    refine ⟨?_, ?_⟩
    · rw [cell_of_row w g (0 + j) cur e (0, 0) hg, Nat.zero_add, hc]
      simp [encStr, hj']
    · exact Blk.frozen hg _
theorem rev_any {w : World} {base g cap : Nat} {e : TypeId} {ps : List (List UInt8)} (h : w.ownsRow base e 1 (.slice (some ⟨g, 0, none⟩) ps.length cap) ps.length (strs ps)) (hsz : ps.length ≤ 9223372036854775807) :
    Calls Tryz.prog 49 #[.slice (some ⟨g, 0, none⟩) ps.length cap] w fun e w' => e = .returned (.tuple #[]) ∧ w.grownBy w' (some g) ∧
      ∀ (j : Nat) x, (ps.reverse.map fun l => (⟨l.toArray⟩ : ByteArray))[j]? = some x → w'.cell? ⟨g, 0 + j, none⟩ = some (.string x) := by
  have hH := holds_strs h
  refine (reverse_any g 0 cap ps w hH hsz).mono ?_
  rintro e w' ⟨rfl, k, rfl⟩
  refine ⟨rfl, by have := grownBy_sorted (w := w) (g := g) (n := k) (os := #[]) ps.reverse.toArray; rwa [Sort.grow_empty] at this, fun j x hx => ?_⟩
  rw [List.getElem?_map, Option.map_eq_some_iff] at hx
  obtain ⟨l, hl, rfl⟩ := hx
  have hj : j < ps.reverse.toArray.size := by simpa using (List.getElem?_eq_some_iff.1 hl).1
  rw [Sort.cell?_putRow encStr (Sort.ahead w k) g 0 ps.toArray _ hH (by simp) j hj]
  have hj2 : j < ps.reverse.length := (List.getElem?_eq_some_iff.1 hl).1
  have e1 : ps.reverse.toArray[j]! = l := by
    rw [getElem!_pos _ j hj, List.getElem_toArray]
    exact (List.getElem?_eq_some_iff.1 hl).2
  rw [e1]
theorem joined_any (bk c : Nat) (xs : List (List UInt8)) (n0 : Nat) (w : World) (hcells : ∀ (j : Nat) x, (xs.map fun l => (⟨l.toArray⟩ : ByteArray))[j]? = some x → w.cell? ⟨bk, 0 + j, none⟩ = some (.string x)) (hbk : bk < w.heap.size) (hdone : xs.flatten = decDigits n0) (hd : (decDigits n0).length ≤ 100000000) (hN : xs.length ≤ 140737488355328) (hcap : xs.length ≤ c) :
    Calls Tryz.prog 50 #[.slice (some ⟨bk, 0, none⟩) xs.length c, .string ⟨#[]⟩] w fun e w' => e = .returned (strV (decDigits n0)) ∧ Below w.heap.size w w' := by
  have emap : (xs.map fun l => (⟨l.toArray⟩ : ByteArray)).map (·.data.toList) = xs := by
    rw [List.map_map]; conv => rhs; rw [← List.map_id xs]
    exact List.map_congr_left fun l _ => rfl
  have h := join_any bk 0 c (xs.map fun l => (⟨l.toArray⟩ : ByteArray)) ⟨#[]⟩ w hcells hbk (by rw [List.length_map]; exact hN) (by rw [List.length_map]; exact hcap)
  rw [emap, List.length_map, show (⟨#[]⟩ : ByteArray).data.toList = [] from rfl, join_flat, hdone] at h
  exact h (by omega)
theorem small_of (v : Value) (r : Nat) (w : World) (h : IsN w v r) (hr : r < W64) :
    Calls Tryz.prog 33 #[v] w fun e w' => e = .returned (.tuple #[.int .u64 (r : Nat), .bool true]) ∧ w = w' := by
  obtain ⟨h1, h2⟩ := limb1 hr
  refine (small_any v _ w h).mono fun e w' hh => ?_
  rwa [if_pos h1, h2] at hh
theorem new_one (w : World) (x : Value) (t : TypeId) : Reads (w.alloc (.cells #[x] t)) (w.heap.size + 1) 1 (some ⟨w.heap.size, 0, none⟩) 1 [x] :=
  ⟨rfl, fun _ => ⟨_, rfl, Nat.lt_succ_self _, cell_one_new w x t⟩⟩
theorem IsN.len {w : World} {A : Option Addr} {L C n : Nat} (h : IsN w (.slice A L C) n) : L = (limbs n).length := by
  obtain ⟨A', C', e, _⟩ := h
  cases e; rfl
theorem own_later {w w' : World} {base : Nat} {e : TypeId} {size n : Nat} {v : Value} {xs : List Value} (h : w.ownsRow base e size v n xs) (hb : Below w.heap.size w w') : w'.ownsRow base e size v n xs :=
  h.kept (row := none) ⟨hb.os, hb.tape, hb.output, hb.size, fun i hi _ => hb.block i hi⟩ (Classical.em _)
set_option maxRecDepth 100000 in
set_option maxHeartbeats 2000000 in
theorem pzprint_any (v : Value) (z : Int) (w : World) (h : IsZ w v z) (hl : (limbs z.natAbs).length ≤ 1000000) (hd : (decDigits z.natAbs).length ≤ 100000000) (ht : TabOk w) :
    Calls Tryz.prog 24 #[v] w fun e w' => e = .returned (strV (itoa z)) ∧ Below w.heap.size w w' := by
  obtain ⟨nv, rfl, hn⟩ := h
  have hit : itoa z = if z < 0 then 45 :: decDigits z.natAbs else decDigits z.natAbs := by
    unfold itoa; split
    · rfl
    · congr 1; omega
  rw [hit]
  clear hit
  obtain ⟨b, hb⟩ : ∃ b, b = decide (z < 0) := ⟨_, rfl⟩
  rw [← hb]
  have hz : (if z < 0 then 45 :: decDigits z.natAbs else decDigits z.natAbs) = if b = true then 45 :: decDigits z.natAbs else decDigits z.natAbs := by rw [hb]; by_cases h : z < 0 <;> simp [h]
  rw [hz]
  clear hz hb
  generalize z.natAbs = n0 at *
  obtain ⟨W0, eW, hN, bV⟩ := box1 w 25 #[.bool b, nv]
  obtain ⟨g, eg⟩ : ∃ g, g = w.heap.size := ⟨_, rfl⟩
  rw [← eg] at hN
  have hgW : g < W0.heap.size := hN.lt
  have hn1 := hn.below bV
  have ht1 := TabOk.below ht bV
  have c1 := hN.cell 1
  have c0 := hN.cell 0
  have EV := Lib.hid (And.intro eW eg)
  clear eW eg
  obtain ⟨An, Ln, Cn, rfl⟩ := hn.frm
  go_enter Tryz.func24, Tryz.ntmps24
  go_wp2_with fail
  rw [← EV.out.1, ← EV.out.2]
  have hnil : W0.ownsRow W0.heap.size 9 1 (.slice none 0 0) 0 [] := World.ownsRow_nil W0 _ _ _
  go_loopw [3, 4] (fun a b wr => ∃ (n : Nat) (ps : List (List UInt8)), PrintAt n0 n ps ∧ (∀ s ∈ ps, s ≠ []) ∧ (limbs n).length ≤ 1000000 ∧ IsN wr b n ∧ wr.ownsRow W0.heap.size 9 1 a ps.length (strs ps) ∧ Below W0.heap.size W0 wr) (fun a _ _ => 100000002 - (match a with | .slice _ k _ => k | _ => 0))
  case atStart => exact ⟨n0, [], .begin_ n0, by simp, hl, hn1, hnil, Below.refl _ _⟩
  case round =>
    obtain ⟨n, ps, hP, hne, hln, hN1, hown, hBel⟩ := hrel
    obtain ⟨A, Ln1, C, rfl⟩ := hN1.frm
    have eLn := hN1.len
    have hiff : 0 < (limbs n).length ↔ n ≠ 0 := by
      constructor
      · intro h0 e; rw [e, limbs_zero] at h0; simp at h0
      · intro h0; exact List.length_pos_iff.2 (fun e => h0 (limbs_nil.1 e))
    rw [← eLn] at hiff hln
    have HLN := Lib.hid eLn
    clear eLn
    obtain ⟨Aa, Ca, rfl, hcap1, _⟩ := own_form hown
    obtain ⟨a, ea⟩ : ∃ a, a = Value.slice Aa ps.length Ca := ⟨_, rfl⟩
    obtain ⟨i0, hi0, hz0, hz1, hz2⟩ := info_parts info_str
    have hfew := hP.few hne
    by_cases hgo : 0 < Ln1
    · have hd1 : decide ((0 : Int) < (Ln1 : Int)) = true := decide_eq_true (by omega)
      have HGO : n ≠ 0 ∨ ps = [] := .inl (hiff.1 hgo)
      clear hiff

      have hO := fun w => of_any 1000000000000000000 (by decide) w
      have hD := fun w vb hb ha => divmod1_any (.slice A Ln1 C) vb n 1000000000000000000 (by decide) (by decide) w ha hb (HLN.out ▸ hln)
      obtain ⟨r, hr⟩ : ∃ r, r = n % 1000000000000000000 := ⟨_, rfl⟩
      obtain ⟨q, hq⟩ : ∃ q, q = n / 1000000000000000000 := ⟨_, rfl⟩
      have hr18 : r < 1000000000000000000 := by rw [hr]; exact Nat.mod_lt _ (by decide)
      have hlq : (limbs q).length ≤ 1000000 := Nat.le_trans (limbs_len_mono (by rw [hq]; exact Nat.div_le_self _ _)) (HLN.out ▸ hln)
      have hS := fun w v h => small_of v r w h (Nat.lt_trans hr18 (by decide))
      have hF := fun w h => fmt_any r (Nat.lt_trans hr18 (by decide)) w h
      have hdl : (decDigits r).length ≤ 18 := dec_len 18 r (by decide) (Nat.lt_of_lt_of_eq hr18 (by decide))
      have hstep := hP.step HGO
      rw [show (10 : Nat) ^ 18 = 1000000000000000000 from rfl, ← hr, ← hq] at hstep
      simp only [← hr, ← hq] at hD
      have HP := Lib.hid hP
      have HST := Lib.hid hstep
      have HQ := Lib.hid (And.intro hr hq)
      have hne1 := dec_ne r
      clear hP hstep hr hq HGO
      go_wp2_with fail
      refine (hO _).mono ?_
      rintro e w1 ⟨v1, rfl, h1, b1⟩
      have hN2 := hN1.below b1
      have own2 := own_later hown b1
      go_wp2_with fail
      refine (hD _ _ h1 hN2).mono ?_
      rintro e w2 ⟨qv, rv, rfl, h2, h2r, hfq, b2⟩
      have own3 := own_later own2 b2
      have B2 := (hBel.trans (b1.mono hBel.size)).trans (b2.mono (hBel.trans (b1.mono hBel.size)).size)
      have hsepq : ∀ x, qv.ownBlock = some x → a.ownBlock ≠ some x := fun x e1 e2 => by
        have := hfq x e1
        rw [ea] at e2
        have := (own2.lt x e2).2
        omega
      obtain ⟨Aq, Lq, Cq, rfl⟩ := h2.frm
      have eLq := h2.len
      have hiq : 0 < (limbs q).length ↔ q ≠ 0 := by
        constructor
        · intro h0 e; rw [e, limbs_zero] at h0; simp at h0
        · intro h0; exact List.length_pos_iff.2 (fun e => h0 (limbs_nil.1 e))
      rw [← eLq] at hiq hlq
      have HLQ := Lib.hid (And.intro eLq hiq)
      clear eLq hiq
      obtain ⟨Ar, Lr, Cr, rfl⟩ := h2r.frm
      go_wp2_with fail
      refine (hS _ _ h2r).mono ?_
      rintro e w2' ⟨rfl, rfl⟩
      have ht3 := TabOk.below (TabOk.below (TabOk.below ht1 hBel) b1) b2
      go_wp2_with fail
      refine (hF _ ?_).mono ?_
      · exact ht3
      rintro e w3 ⟨rfl, b3⟩
      have hN3 := h2.below b3
      have own4 := own_later own3 b3
      have B3 := B2.trans (b3.mono B2.size)
      obtain ⟨S0, hS0⟩ : ∃ y, y = decDigits r := ⟨_, rfl⟩
      rw [← hS0] at hdl hne1
      have HS0 := Lib.hid hS0
      rw [← hS0]
      clear hS0
      by_cases hq0 : 0 < Lq
      · have hd2 : decide ((0 : Int) < (Lq : Int)) = true := decide_eq_true (by omega)
        have hRep := fun w => repeat_any ⟨#[48]⟩ (18 - S0.length) w (by omega) (by show 1 * _ ≤ _; omega)
        have hsub : IntKind.i64.wrap ((18 : Int) - (S0.length : Int)) = ((18 - S0.length : Nat) : Int) := by rw [IntKind.wrap_i64]; omega
        obtain ⟨S1, hS1⟩ : ∃ y, y = padT 18 S0 := ⟨_, rfl⟩
        have hcat : (⟨(Lib.repeatL ([48] : List UInt8) (18 - S0.length)).toArray⟩ : ByteArray) ++ ⟨S0.toArray⟩ = ⟨S1.toArray⟩ := by rw [str_add, reps, hS1]; rfl
        have hsum : ¬ (9223372036854775807 < (Lib.repeatL ([48] : List UInt8) (18 - S0.length)).length + S0.length) := by rw [reps, List.length_replicate]; omega
        have HS1 := Lib.hid hS1
        clear hS1
        go_wp2_with fail
        refine (hRep _).mono ?_
        rintro e w5 ⟨rfl, b5⟩
        have hN5 := hN3.below b5
        have own5 := own_later own4 b5
        have B5 := B3.trans (b5.mono B3.size)
        go_wp2_with (at_builtin; go_must (refine wpList_append_any _ rfl (.tmp 45) (.tmp 47) _ rfl W0.heap.size 9 i0 _ 1 16 Tryz.underlying62 hi0 hz0 hz1 hz2 rfl (by omega) _ _ _ rfl (own5.alloc _) (w5.heap.size + 1) _ 1 1 [strV S1] rfl (new_one _ _ _) (by simp [Value.oneCell']) (by unfold maxLen; omega) (by omega) (Nat.le_trans B5.size (by simp)) ?_; intro v' w4 hown' hgrow hat))
        have B4 := (B5.alloc B5.size (.cells #[strV S1] 9)).grown hgrow (Nat.le_trans B5.size (by simp)) (fun g e => (own5.lt g e).1)
        have hN4 : IsN w4 (.slice Aq Lq Cq) q := IsL.grownFar (IsN.below hN5 ((Below.refl _ _).alloc (Nat.le_refl _) _)) hgrow (fun x e1 => by have := hsepq x e1; rw [ea] at this; exact this)
        obtain ⟨Av, Cv, rfl, _⟩ := own_form hown'
        have hpos : (ps ++ [S1]).length = ps.length + 1 := by simp
        refine ⟨⟨q, ps ++ [S1], ?_, ?_, by rw [← HLQ.out.1]; exact hlq, hN4, ?_, B4⟩, ?_⟩
        · have h1 := HST.out
          rw [if_neg (HLQ.out.2.1 hq0), ← HS0.out, ← HS1.out] at h1; exact h1
        · intro s hs
          rcases List.mem_append.1 hs with h | h
          · exact hne s h
          · rw [List.mem_singleton.1 h]; rw [HS1.out]; unfold padT; intro e; exact hne1 (List.append_eq_nil_iff.1 e).2
        · rw [hpos, strs_snoc]; exact hown'
        · dsimp only; omega

      · have hd2 : decide ((0 : Int) < (Lq : Int)) = false := decide_eq_false (by omega)
        go_wp2_with (at_builtin; go_must (refine wpList_append_any _ rfl (.tmp 45) (.tmp 47) _ rfl W0.heap.size 9 i0 _ 1 16 Tryz.underlying62 hi0 hz0 hz1 hz2 rfl (by omega) _ _ _ rfl (own4.alloc _) (w3.heap.size + 1) _ 1 1 [strV S0] rfl (new_one _ _ _) (by simp [Value.oneCell']) (by unfold maxLen; omega) (by omega) (Nat.le_trans B3.size (by simp)) ?_; intro v' w4 hown' hgrow hat))
        have B4 := (B3.alloc B3.size (.cells #[strV S0] 9)).grown hgrow (Nat.le_trans B3.size (by simp)) (fun g e => (own4.lt g e).1)
        have hN4 : IsN w4 (.slice Aq Lq Cq) q := IsL.grownFar (IsN.below hN3 ((Below.refl _ _).alloc (Nat.le_refl _) _)) hgrow (fun x e1 => by have := hsepq x e1; rw [ea] at this; exact this)
        obtain ⟨Av, Cv, rfl, _⟩ := own_form hown'
        have hpos : (ps ++ [S0]).length = ps.length + 1 := by simp
        refine ⟨⟨q, ps ++ [S0], ?_, ?_, by rw [← HLQ.out.1]; exact hlq, hN4, ?_, B4⟩, ?_⟩
        · have h1 := HST.out
          rw [if_pos (Classical.byContradiction fun h => hq0 (HLQ.out.2.2 h)), ← HS0.out] at h1; exact h1
        · intro s hs
          rcases List.mem_append.1 hs with h | h
          · exact hne s h
          · rw [List.mem_singleton.1 h]; exact hne1
        · rw [hpos, strs_snoc]; exact hown'
        · dsimp only; omega

    · have hL0 : Ln1 = 0 := by omega
      subst hL0
      have hn0 : n = 0 := Classical.byContradiction fun h => by have := hiff.2 h; omega
      have hd1 : decide ((0 : Int) < ((0 : Nat) : Int)) = false := rfl
      by_cases hps : ps = []
      · have hd3 : (((ps.length : Nat) : Int) == 0) = true := by rw [hps]; rfl
        have HGO : n ≠ 0 ∨ ps = [] := .inr hps
        clear hiff hps

        have hO := fun w => of_any 1000000000000000000 (by decide) w
        have hD := fun w vb hb ha => divmod1_any (.slice A 0 C) vb n 1000000000000000000 (by decide) (by decide) w ha hb (HLN.out ▸ hln)
        obtain ⟨r, hr⟩ : ∃ r, r = n % 1000000000000000000 := ⟨_, rfl⟩
        obtain ⟨q, hq⟩ : ∃ q, q = n / 1000000000000000000 := ⟨_, rfl⟩
        have hr18 : r < 1000000000000000000 := by rw [hr]; exact Nat.mod_lt _ (by decide)
        have hlq : (limbs q).length ≤ 1000000 := Nat.le_trans (limbs_len_mono (by rw [hq]; exact Nat.div_le_self _ _)) (HLN.out ▸ hln)
        have hS := fun w v h => small_of v r w h (Nat.lt_trans hr18 (by decide))
        have hF := fun w h => fmt_any r (Nat.lt_trans hr18 (by decide)) w h
        have hdl : (decDigits r).length ≤ 18 := dec_len 18 r (by decide) (Nat.lt_of_lt_of_eq hr18 (by decide))
        have hstep := hP.step HGO
        rw [show (10 : Nat) ^ 18 = 1000000000000000000 from rfl, ← hr, ← hq] at hstep
        simp only [← hr, ← hq] at hD
        have HP := Lib.hid hP
        have HST := Lib.hid hstep
        have HQ := Lib.hid (And.intro hr hq)
        have hne1 := dec_ne r
        clear hP hstep hr hq HGO
        go_wp2_with fail
        refine (hO _).mono ?_
        rintro e w1 ⟨v1, rfl, h1, b1⟩
        have hN2 := hN1.below b1
        have own2 := own_later hown b1
        go_wp2_with fail
        refine (hD _ _ h1 hN2).mono ?_
        rintro e w2 ⟨qv, rv, rfl, h2, h2r, hfq, b2⟩
        have own3 := own_later own2 b2
        have B2 := (hBel.trans (b1.mono hBel.size)).trans (b2.mono (hBel.trans (b1.mono hBel.size)).size)
        have hsepq : ∀ x, qv.ownBlock = some x → a.ownBlock ≠ some x := fun x e1 e2 => by
          have := hfq x e1
          rw [ea] at e2
          have := (own2.lt x e2).2
          omega
        obtain ⟨Aq, Lq, Cq, rfl⟩ := h2.frm
        have eLq := h2.len
        have hiq : 0 < (limbs q).length ↔ q ≠ 0 := by
          constructor
          · intro h0 e; rw [e, limbs_zero] at h0; simp at h0
          · intro h0; exact List.length_pos_iff.2 (fun e => h0 (limbs_nil.1 e))
        rw [← eLq] at hiq hlq
        have HLQ := Lib.hid (And.intro eLq hiq)
        clear eLq hiq
        obtain ⟨Ar, Lr, Cr, rfl⟩ := h2r.frm
        go_wp2_with fail
        refine (hS _ _ h2r).mono ?_
        rintro e w2' ⟨rfl, rfl⟩
        have ht3 := TabOk.below (TabOk.below (TabOk.below ht1 hBel) b1) b2
        go_wp2_with fail
        refine (hF _ ?_).mono ?_
        · exact ht3
        rintro e w3 ⟨rfl, b3⟩
        have hN3 := h2.below b3
        have own4 := own_later own3 b3
        have B3 := B2.trans (b3.mono B2.size)
        obtain ⟨S0, hS0⟩ : ∃ y, y = decDigits r := ⟨_, rfl⟩
        rw [← hS0] at hdl hne1
        have HS0 := Lib.hid hS0
        rw [← hS0]
        clear hS0
        by_cases hq0 : 0 < Lq
        · have hd2 : decide ((0 : Int) < (Lq : Int)) = true := decide_eq_true (by omega)
          have hRep := fun w => repeat_any ⟨#[48]⟩ (18 - S0.length) w (by omega) (by show 1 * _ ≤ _; omega)
          have hsub : IntKind.i64.wrap ((18 : Int) - (S0.length : Int)) = ((18 - S0.length : Nat) : Int) := by rw [IntKind.wrap_i64]; omega
          obtain ⟨S1, hS1⟩ : ∃ y, y = padT 18 S0 := ⟨_, rfl⟩
          have hcat : (⟨(Lib.repeatL ([48] : List UInt8) (18 - S0.length)).toArray⟩ : ByteArray) ++ ⟨S0.toArray⟩ = ⟨S1.toArray⟩ := by rw [str_add, reps, hS1]; rfl
          have hsum : ¬ (9223372036854775807 < (Lib.repeatL ([48] : List UInt8) (18 - S0.length)).length + S0.length) := by rw [reps, List.length_replicate]; omega
          have HS1 := Lib.hid hS1
          clear hS1
          go_wp2_with fail
          refine (hRep _).mono ?_
          rintro e w5 ⟨rfl, b5⟩
          have hN5 := hN3.below b5
          have own5 := own_later own4 b5
          have B5 := B3.trans (b5.mono B3.size)
          go_wp2_with (at_builtin; go_must (refine wpList_append_any _ rfl (.tmp 45) (.tmp 47) _ rfl W0.heap.size 9 i0 _ 1 16 Tryz.underlying62 hi0 hz0 hz1 hz2 rfl (by omega) _ _ _ rfl (own5.alloc _) (w5.heap.size + 1) _ 1 1 [strV S1] rfl (new_one _ _ _) (by simp [Value.oneCell']) (by unfold maxLen; omega) (by omega) (Nat.le_trans B5.size (by simp)) ?_; intro v' w4 hown' hgrow hat))
          have B4 := (B5.alloc B5.size (.cells #[strV S1] 9)).grown hgrow (Nat.le_trans B5.size (by simp)) (fun g e => (own5.lt g e).1)
          have hN4 : IsN w4 (.slice Aq Lq Cq) q := IsL.grownFar (IsN.below hN5 ((Below.refl _ _).alloc (Nat.le_refl _) _)) hgrow (fun x e1 => by have := hsepq x e1; rw [ea] at this; exact this)
          obtain ⟨Av, Cv, rfl, _⟩ := own_form hown'
          have hpos : (ps ++ [S1]).length = ps.length + 1 := by simp
          refine ⟨⟨q, ps ++ [S1], ?_, ?_, by rw [← HLQ.out.1]; exact hlq, hN4, ?_, B4⟩, ?_⟩
          · have h1 := HST.out
            rw [if_neg (HLQ.out.2.1 hq0), ← HS0.out, ← HS1.out] at h1; exact h1
          · intro s hs
            rcases List.mem_append.1 hs with h | h
            · exact hne s h
            · rw [List.mem_singleton.1 h]; rw [HS1.out]; unfold padT; intro e; exact hne1 (List.append_eq_nil_iff.1 e).2
          · rw [hpos, strs_snoc]; exact hown'
          · dsimp only; omega
  
        · have hd2 : decide ((0 : Int) < (Lq : Int)) = false := decide_eq_false (by omega)
          go_wp2_with (at_builtin; go_must (refine wpList_append_any _ rfl (.tmp 45) (.tmp 47) _ rfl W0.heap.size 9 i0 _ 1 16 Tryz.underlying62 hi0 hz0 hz1 hz2 rfl (by omega) _ _ _ rfl (own4.alloc _) (w3.heap.size + 1) _ 1 1 [strV S0] rfl (new_one _ _ _) (by simp [Value.oneCell']) (by unfold maxLen; omega) (by omega) (Nat.le_trans B3.size (by simp)) ?_; intro v' w4 hown' hgrow hat))
          have B4 := (B3.alloc B3.size (.cells #[strV S0] 9)).grown hgrow (Nat.le_trans B3.size (by simp)) (fun g e => (own4.lt g e).1)
          have hN4 : IsN w4 (.slice Aq Lq Cq) q := IsL.grownFar (IsN.below hN3 ((Below.refl _ _).alloc (Nat.le_refl _) _)) hgrow (fun x e1 => by have := hsepq x e1; rw [ea] at this; exact this)
          obtain ⟨Av, Cv, rfl, _⟩ := own_form hown'
          have hpos : (ps ++ [S0]).length = ps.length + 1 := by simp
          refine ⟨⟨q, ps ++ [S0], ?_, ?_, by rw [← HLQ.out.1]; exact hlq, hN4, ?_, B4⟩, ?_⟩
          · have h1 := HST.out
            rw [if_pos (Classical.byContradiction fun h => hq0 (HLQ.out.2.2 h)), ← HS0.out] at h1; exact h1
          · intro s hs
            rcases List.mem_append.1 hs with h | h
            · exact hne s h
            · rw [List.mem_singleton.1 h]; exact hne1
          · rw [hpos, strs_snoc]; exact hown'
          · dsimp only; omega
  
      · have hlp : 0 < ps.length := List.length_pos_iff.2 hps
        have hd3 : (((ps.length : Nat) : Int) == 0) = false := by rw [nat_eq0]; exact decide_eq_false (by omega)
        subst hn0
        have hdone := hP.done hps
        obtain ⟨gb, cap, hv, hgb, hgl⟩ := hown.form hlp
        obtain ⟨rfl, _, rfl⟩ := Value.slice.inj hv
        clear hiff hv
        have hR := rev_any hown (by omega)
        have hJ := fun w1 hc hg => joined_any gb Ca (ps.reverse) n0 w1 hc hg hdone hd (by rw [List.length_reverse]; omega) (by rw [List.length_reverse]; exact hcap1)
        rw [List.length_reverse] at hJ
        clear hP hps
        go_wp2_with fail
        refine hR.mono ?_
        rintro e w1 ⟨rfl, hgrow, hcells⟩
        have B1 := hBel.grown hgrow hBel.size (fun x e => by cases e; exact hgb)
        go_wp2_with fail
        refine (hJ _ hcells (Nat.lt_of_lt_of_le hgl hgrow.size)).mono ?_
        rintro e w2 ⟨rfl, b2⟩
        have B2 := B1.trans (b2.mono B1.size)
        have hc0 := (hN.below B2 hgW).cell 0
        have hsum : ¬ (9223372036854775807 < 1 + (decDigits n0).length) := by omega
        have hfin : Below w.heap.size w w2 := bV.trans (B2.mono bV.size)
        cases b
        · go_wp2_with fail
          go_ret
          exact ⟨rfl, hfin⟩
        · go_wp2_with fail
          go_ret
          exact ⟨congrArg (fun x => Ending.returned (Value.string x)) (str_add [45] (decDigits n0)), hfin⟩
end Go.Proofs.YtooonjcpdbbniaaGreatDoor
