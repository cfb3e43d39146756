/- ratchetref04.Print: an integer's text, by definition. -/
import Derived.Test.YtooonjcpdbbniaaGreatDoorAid04
import Derived.Test.YtooonjcpdbbniaaGreatDoorDivM
namespace Go.Proofs.YtooonjcpdbbniaaGreatDoor
open Go.RowKit Go.Lib Go.Shelf
attribute [local go_sem ↓] Go.wp_at_zero Go.wp_at_succ
/-- what is printed so far, figure by figure -/
def PrintC (n0 n : Nat) (s : List UInt8) : Prop := (s = [] ∧ n = n0) ∨ (s ≠ [] ∧ decDigits n0 = (if n = 0 then [] else decDigits n) ++ s)
theorem PrintC.step {n0 n : Nat} {s : List UInt8} (h : PrintC n0 n s) (hn : n ≠ 0 ∨ s = []) : PrintC n0 (n / 10) (UInt8.ofNat (48 + n % 10) :: s) := by
  have key : decDigits n0 = decDigits n ++ s := by
    rcases h with ⟨h1, h2⟩ | ⟨h1, h2⟩
    · rw [h1, h2]; simp
    · rcases hn with hn | hn
      · rw [if_neg hn] at h2; exact h2
      · exact absurd hn h1
  refine .inr ⟨by simp, ?_⟩
  rw [key]
  by_cases hs : n < 10
  · rw [if_pos (Nat.div_eq_of_lt hs), dec_small hs, Nat.mod_eq_of_lt hs]; rfl
  · rw [if_neg (by have := (Nat.one_le_div_iff (by decide : 0 < 10)).2 (by omega : 10 ≤ n); omega)]
    conv => lhs; rw [dec_big hs]
    rw [List.append_assoc]; rfl
theorem PrintC.len {n0 n : Nat} {s : List UInt8} (h : PrintC n0 n s) : s.length ≤ (decDigits n0).length := by
  rcases h with ⟨rfl, _⟩ | ⟨_, h⟩
  · simp
  · rw [h, List.length_append]; omega
theorem PrintC.done {n0 : Nat} {s : List UInt8} (h : PrintC n0 0 s) (hn : s ≠ []) : s = decDigits n0 := by
  rcases h with ⟨h1, _⟩ | ⟨_, h2⟩
  · exact absurd h1 hn
  · rw [if_pos rfl, List.nil_append] at h2; exact h2.symm
theorem one_byte (w : World) (d : Nat) (hd : d < 10) : IsY (w.alloc (.cells #[.int .u8 ((48 + d : Nat) : Int)] 5)) (.slice (some ⟨w.heap.size, 0, none⟩) 1 1) (nums [UInt8.ofNat (48 + d)]) := by
  have e : nums [UInt8.ofNat (48 + d)] = [48 + d] := by
    unfold nums; rw [List.map_cons, toNat_fig hd]; rfl
  rw [e]
  refine ⟨_, _, rfl, Nat.le_refl _, by decide, fun x hx => by rw [List.mem_singleton.1 hx]; omega, rfl, fun _ => ⟨_, rfl, by rw [World.size_alloc]; exact Nat.lt_succ_self _, fun j u hj => ?_⟩⟩
  have hj0 : j = 0 := by
    rcases Nat.lt_or_ge j 1 with h | h
    · omega
    · rw [List.getElem?_eq_none (by rw [ys_len]; exact h)] at hj; cases hj
  subst hj0
  rw [ys_at _ 0 (by simp)] at hj
  cases hj
  exact cell_one_new w _ _ 0 _ rfl
theorem rsmall_of (v : Value) (r : Nat) (w : World) (h : IsN w v r) (hr : r < W64) :
    Calls Tryz.prog 34 #[v] w fun e w' => e = .returned (.tuple #[.int .u64 (r : Nat), .bool true]) ∧ w = w' := by
  obtain ⟨h1, h2⟩ := limb1 hr
  refine (rsmall_any v _ w h).mono fun e w' hh => ?_
  rwa [if_pos h1, h2] at hh
set_option maxRecDepth 100000 in
set_option maxHeartbeats 2000000 in
theorem rzprint_any (v : Value) (z : Int) (w : World) (h : IsZ w v z) (hl : (limbs z.natAbs).length ≤ 10) (hd : (decDigits z.natAbs).length ≤ 200) :
    Calls Tryz.prog 25 #[v] w fun e w' => e = .returned (strV (itoa z)) ∧ Below w.heap.size w w' := by
  obtain ⟨nv, rfl, hn⟩ := h
  have hit : itoa z = if z < 0 then 45 :: decDigits z.natAbs else decDigits z.natAbs := by
    unfold itoa; split
    · rfl
    · congr 1; omega
  rw [hit]
  clear hit
  obtain ⟨b, hb⟩ : ∃ b, b = decide (z < 0) := ⟨_, rfl⟩
  rw [← hb]
  have hz : (if z < 0 then 45 :: decDigits z.natAbs else decDigits z.natAbs) = if b = true then 45 :: decDigits z.natAbs else decDigits z.natAbs := by rw [hb]; by_cases h : z < 0 <;> simp [h]
  rw [hz]
  clear hz hb
  generalize z.natAbs = n0 at *
  obtain ⟨W0, eW, hN, bV⟩ := box1 w 25 #[.bool b, nv]
  obtain ⟨g, eg⟩ : ∃ g, g = w.heap.size := ⟨_, rfl⟩
  rw [← eg] at hN
  have hgW : g < W0.heap.size := hN.lt
  have hn1 := hn.below bV
  have c1 := hN.cell 1
  have c0 := hN.cell 0
  have EV := Lib.hid (And.intro eW eg)
  clear eW eg
  obtain ⟨An, Ln, Cn, rfl⟩ := hn.frm
  go_enter Tryz.func25, Tryz.ntmps25
  go_wp2_with fail
  rw [← EV.out.1, ← EV.out.2]
  go_loopw [3, 4] (fun a b wr => ∃ (n : Nat) (s : List UInt8), PrintC n0 n s ∧ (n ≠ 0 ∨ s = []) ∧ (limbs n).length ≤ 10 ∧ a = strV s ∧ IsN wr b n ∧ Below W0.heap.size W0 wr) (fun a _ _ => 1000 - (match a with | .string x => x.size | _ => 0))
  case atStart => exact ⟨n0, [], .inl ⟨rfl, rfl⟩, .inr rfl, hl, rfl, hn1, Below.refl _ _⟩
  case round =>
    obtain ⟨n, s, hP, hgo, hln, rfl, hN1, hBel⟩ := hrel
    obtain ⟨A, L, C, rfl⟩ := hN1.frm
    have hslen := hP.len
    have hstep := hP.step hgo
    obtain ⟨r, hr⟩ : ∃ r, r = n % 10 := ⟨_, rfl⟩
    obtain ⟨q, hq⟩ : ∃ q, q = n / 10 := ⟨_, rfl⟩
    have hr10 : r < 10 := by rw [hr]; exact Nat.mod_lt _ (by decide)
    have hlq : (limbs q).length ≤ 10 := Nat.le_trans (limbs_len_mono (by rw [hq]; exact Nat.div_le_self _ _)) hln
    have hO := fun w => rof_any 10 (by decide) w
    have hD := fun w vb hb ha => divmod_any (.slice A L C) vb n 10 w ha hb (Nat.le_trans hln (by decide)) (Nat.le_trans (limbs_len_le (k := 1) (by decide)) (by decide)) (by decide)
    simp only [← hr, ← hq] at hD hstep
    have hS := fun w v h => rsmall_of v r w h (Nat.lt_trans hr10 (by decide))
    obtain ⟨c, hc⟩ : ∃ c, c = 48 + r := ⟨_, rfl⟩
    have hw1 : IntKind.u64.wrap (48 + (r : Int)) = ((c : Nat) : Int) := by rw [IntKind.wrap_u64]; omega
    have hw2 : IntKind.u8.wrap ((c : Nat) : Int) = ((c : Nat) : Int) := by rw [IntKind.wrap_u8]; omega
    have hcv := fun w : World => conv_str (one_byte w r hr10) (by simp)
    obtain ⟨x, hx⟩ : ∃ x, x = UInt8.ofNat (48 + r) := ⟨_, rfl⟩
    have hx' := hx
    rw [← hc] at hx'
    simp only [← hc] at hcv hstep
    simp only [← hx'] at hcv hstep
    obtain ⟨S, hSS⟩ : ∃ S, S = x :: s := ⟨_, rfl⟩
    have hcat : (⟨[x].toArray⟩ : ByteArray) ++ ⟨s.toArray⟩ = ⟨S.toArray⟩ := by rw [str_add, hSS]; rfl
    have hsum : ¬ (9223372036854775807 < 1 + s.length) := by omega
    have hSl : S.length = s.length + 1 := by rw [hSS]; rfl
    have hSn : S ≠ [] := by rw [hSS]; simp
    rw [← hSS] at hstep
    have HST := Lib.hid hstep
    clear hP hgo hstep hr hq hc hx hx' hSS
    go_wp2_with fail
    refine (hO _).mono ?_
    rintro e w1 ⟨v1, rfl, h1, b1⟩
    have hN2 := hN1.below b1
    go_wp2_with fail
    refine (hD _ _ h1 hN2).mono ?_
    rintro e w2 ⟨qv, rv, rfl, h2, h2r, b2⟩
    have B2 := (hBel.trans (b1.mono hBel.size)).trans (b2.mono (hBel.trans (b1.mono hBel.size)).size)
    obtain ⟨Aq, Lq, Cq, rfl⟩ := h2.frm
    have eLq := h2.len
    have hiq : Lq = 0 ↔ q = 0 := by
      rw [eLq]; constructor
      · intro h0; exact limbs_nil.1 (List.eq_nil_of_length_eq_zero h0)
      · intro h0; rw [h0, limbs_zero]; rfl
    have HLQ := Lib.hid (And.intro eLq hiq)
    clear eLq hiq
    go_wp2_with fail
    refine (hS _ _ h2r).mono ?_
    rintro e w3 ⟨rfl, rfl⟩
    have hcv2 := hcv w2
    have hbb := (Below.refl w2.heap.size w2).alloc (Nat.le_refl _) (.cells #[.int .u8 ((c : Nat) : Int)] 5)
    have hN4 := h2.below hbb
    have B4 := B2.trans (hbb.mono B2.size)
    by_cases hq0 : Lq = 0
    · subst hq0
      have hc0 := (hN.below B4 hgW).cell 0
      have hfin : Below w.heap.size w (w2.alloc (.cells #[.int .u8 ((c : Nat) : Int)] 5)) := bV.trans (B4.mono bV.size)
      have hqz := HLQ.out.2.1 rfl
      have hdone : S = decDigits n0 := PrintC.done (by have := HST.out; rwa [hqz] at this) hSn
      have HD := Lib.hid hdone
      clear hdone
      have hsum2 : ¬ (9223372036854775807 < 1 + S.length) := by omega
      cases b
      · go_wp2_with fail
        go_ret
        exact ⟨congrArg (fun q => Ending.returned (strV q)) HD.out, hfin⟩
      · go_wp2_with fail
        go_ret
        exact ⟨(congrArg (fun x => Ending.returned (Value.string x)) (str_add [45] S)).trans (congrArg (fun q => Ending.returned (strV (45 :: q))) HD.out), hfin⟩
    · have hd1 : (((Lq : Nat) : Int) == 0) = false := by rw [nat_eq0]; exact decide_eq_false hq0
      go_wp2_with fail
      refine ⟨⟨q, S, HST.out, .inl (fun e => hq0 (HLQ.out.2.2 e)), hlq, rfl, hN4, B4⟩, ?_⟩
      show 1000 - (⟨S.toArray⟩ : ByteArray).size < 1000 - (⟨s.toArray⟩ : ByteArray).size
      have e1 : (⟨S.toArray⟩ : ByteArray).size = S.length := by simp [ByteArray.size]
      have e2 : (⟨s.toArray⟩ : ByteArray).size = s.length := by simp [ByteArray.size]
      omega
end Go.Proofs.YtooonjcpdbbniaaGreatDoor
