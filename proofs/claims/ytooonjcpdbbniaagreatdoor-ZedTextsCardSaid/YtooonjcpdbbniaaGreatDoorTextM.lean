/- Integers' texts, plainly: no program in sight. -/
import Derived.Lib.ItoaNum
import Derived.Lib.ParseIntB
import Derived.Lib.Repeat
namespace Go.Proofs.YtooonjcpdbbniaaGreatDoor
open Go.Lib
/-- is a byte a figure? -/
def figB (c : UInt8) : Bool := decide (48 ≤ c.toNat) && decide (c.toNat ≤ 57)
/-- the number that figures spell, behind one that stands ahead -/
def valF (a : Nat) (l : List UInt8) : Nat := l.foldl (fun a c => a * 10 + (c.toNat - 48)) a
/-- the number that figures spell -/
def valT (l : List UInt8) : Nat := valF 0 l
theorem valF_cons (a : Nat) (c : UInt8) (l : List UInt8) : valF a (c :: l) = valF (a * 10 + (c.toNat - 48)) l := by unfold valF; rw [List.foldl_cons]
theorem valF_append (a : Nat) (l r : List UInt8) : valF a (l ++ r) = valF (valF a l) r := by unfold valF; rw [List.foldl_append]
theorem valF_eq (l : List UInt8) : ∀ (a : Nat), valF a l = a * 10 ^ l.length + valT l := by
  induction l with
  | nil => intro a; simp [valF, valT]
  | cons c r ih =>
    intro a
    have hT : valT (c :: r) = (0 * 10 + (c.toNat - 48)) * 10 ^ r.length + valT r := by
      show valF 0 (c :: r) = _
      rw [valF_cons, ih]
    rw [valF_cons, ih, hT, List.length_cons, Nat.pow_succ]
    generalize 10 ^ r.length = p
    generalize valT r = v
    generalize c.toNat - 48 = d
    rw [Nat.add_mul, Nat.zero_mul, Nat.zero_add, Nat.mul_assoc a 10 p, Nat.mul_comm 10 p]
    omega
/-- figures behind figures -/
theorem valT_append (l r : List UInt8) : valT (l ++ r) = valT l * 10 ^ r.length + valT r := by
  show valF 0 (l ++ r) = _
  rw [valF_append, valF_eq]; rfl
theorem valT_snoc (l : List UInt8) (c : UInt8) : valT (l ++ [c]) = valT l * 10 + (c.toNat - 48) := by
  rw [valT_append]; simp [valT, valF]
theorem valT_lt : ∀ (l : List UInt8), (∀ c ∈ l, figB c = true) → valT l < 10 ^ l.length
  | [], _ => by simp [valT, valF]
  | c :: r, h => by
    have h1 := valT_lt r fun x hx => h x (List.mem_cons_of_mem _ hx)
    have hc := h c (List.mem_cons_self ..)
    unfold figB at hc
    rw [Bool.and_eq_true, decide_eq_true_eq, decide_eq_true_eq] at hc
    have e := valF_eq r (0 * 10 + (c.toNat - 48))
    unfold valT
    rw [valF_cons, e, List.length_cons, Nat.pow_succ]
    have hd : 0 * 10 + (c.toNat - 48) ≤ 9 := by omega
    generalize 0 * 10 + (c.toNat - 48) = d at *
    generalize 10 ^ r.length = p at *
    have : d * p ≤ 9 * p := Nat.mul_le_mul_right p hd
    omega
theorem parseM_figs (M : Nat) : ∀ (l : List UInt8) (a : Nat), (∀ c ∈ l, figB c = true) → valF a l ≤ M → valF a l < 18446744073709551616 → parseUintM M a l = .ok (valF a l)
  | [], a, _, _, _ => rfl
  | c :: r, a, h, hM, h64 => by
    have hc := h c (List.mem_cons_self ..)
    unfold figB at hc
    rw [Bool.and_eq_true, decide_eq_true_eq, decide_eq_true_eq] at hc
    rw [valF_cons] at hM h64 ⊢
    have hge : a * 10 + (c.toNat - 48) ≤ valF (a * 10 + (c.toNat - 48)) r := by
      rw [valF_eq]
      have : 1 ≤ 10 ^ r.length := Nat.one_le_pow _ _ (by decide)
      have := Nat.le_mul_of_pos_right (a * 10 + (c.toNat - 48)) this
      omega
    unfold parseUintM
    rw [if_pos ⟨hc.1, hc.2⟩, if_neg (by omega), if_neg (by omega)]
    exact parseM_figs M r _ (fun x hx => h x (List.mem_cons_of_mem _ hx)) hM h64
/-- what ParseUint says of few figures -/
theorem parse_figs {l : List UInt8} (h : ∀ c ∈ l, figB c = true) (hn : l ≠ []) (hl : l.length ≤ 18) : parseUintB 64 l = .ok (valT l) := by
  have h1 := valT_lt l h
  have h2 : 10 ^ l.length ≤ 10 ^ 18 := Nat.pow_le_pow_right (by decide) hl
  unfold parseUintB
  rw [if_neg hn]
  exact parseM_figs _ l 0 h (by show valT l ≤ _; have : (10 : Nat) ^ 18 ≤ 2 ^ 64 - 1 := by decide
                                omega) (by show valT l < _; have : (10 : Nat) ^ 18 < 18446744073709551616 := by decide
                                           omega)
theorem toNat_fig {d : Nat} (h : d < 10) : (UInt8.ofNat (48 + d)).toNat = 48 + d := by
  rw [UInt8.toNat_ofNat']; omega
theorem dec_small {u : Nat} (h : u < 10) : decDigits u = [UInt8.ofNat (48 + u)] := by rw [decDigits, dif_pos h]
theorem dec_big {u : Nat} (h : ¬ u < 10) : decDigits u = decDigits (u / 10) ++ [UInt8.ofNat (48 + u % 10)] := by rw [decDigits, dif_neg h]
theorem figB_of {d : Nat} (h : d < 10) : figB (UInt8.ofNat (48 + d)) = true := by
  unfold figB; rw [toNat_fig h]; simp; omega
/-- a numeral is figures -/
theorem dec_figs (u : Nat) : ∀ c ∈ decDigits u, figB c = true := by
  induction u using Nat.strongRecOn with
  | _ u ih =>
    intro c hc
    by_cases h : u < 10
    · rw [dec_small h] at hc
      rw [List.mem_singleton.1 hc]; exact figB_of h
    · rw [dec_big h] at hc
      rcases List.mem_append.1 hc with hc | hc
      · exact ih (u / 10) (by omega) c hc
      · rw [List.mem_singleton.1 hc]; exact figB_of (by omega)
theorem dec_ne (u : Nat) : decDigits u ≠ [] := by
  by_cases h : u < 10
  · rw [dec_small h]; simp
  · rw [dec_big h]; simp
/-- a numeral spells its number -/
theorem val_dec (u : Nat) : valT (decDigits u) = u := by
  induction u using Nat.strongRecOn with
  | _ u ih =>
    by_cases h : u < 10
    · rw [dec_small h]
      show 0 * 10 + ((UInt8.ofNat (48 + u)).toNat - 48) = u
      rw [toNat_fig h]; omega
    · rw [dec_big h, valT_snoc, ih (u / 10) (by omega), toNat_fig (by omega)]; omega
/-- the first figure is no nought, but of nought -/
theorem dec_head (u : Nat) (h0 : u ≠ 0) : (decDigits u).head? ≠ some 48 := by
  induction u using Nat.strongRecOn with
  | _ u ih =>
    by_cases h : u < 10
    · rw [dec_small h]
      intro e
      have e2 := congrArg UInt8.toNat (Option.some.inj e)
      rw [toNat_fig h] at e2
      have : (48 : UInt8).toNat = 48 := rfl
      omega
    · rw [dec_big h]
      have := ih (u / 10) (by omega) (by omega)
      have hne := dec_ne (u / 10)
      cases hd : decDigits (u / 10) with
      | nil => exact absurd hd hne
      | cons x r => rw [hd] at this; simpa using this
/-- figures that begin with no nought are their number's numeral -/
theorem dec_val : ∀ (n : Nat) (l : List UInt8), l.length = n → (∀ c ∈ l, figB c = true) → l ≠ [] → (l.length = 1 ∨ l.head? ≠ some 48) → decDigits (valT l) = l := by
  intro n
  induction n with
  | zero => intro l hl _ hn _; exact absurd (List.eq_nil_of_length_eq_zero hl) hn
  | succ n ih =>
    intro l hl hf hn hh
    obtain ⟨r, c, rfl⟩ : ∃ r c, l = r ++ [c] := ⟨l.dropLast, l.getLast hn, (List.dropLast_concat_getLast hn).symm⟩
    have hc := hf c (by simp)
    have hc' := hc
    unfold figB at hc
    rw [Bool.and_eq_true, decide_eq_true_eq, decide_eq_true_eq] at hc
    have ec : UInt8.ofNat (48 + (c.toNat - 48)) = c := by
      rw [show 48 + (c.toNat - 48) = c.toNat from by omega]; simp
    rw [valT_snoc]
    by_cases hr : r = []
    · subst hr
      have e0 : valT ([] : List UInt8) = 0 := rfl
      rw [e0, Nat.zero_mul, Nat.zero_add, dec_small (by omega), ec]; rfl
    · have hrl : r.length = n := by simpa using hl
      have h48 : r.head? ≠ some 48 := by
        have h1 : (r ++ [c]).length ≠ 1 := by
          cases r with
          | nil => exact absurd rfl hr
          | cons x y => simp
        have := hh.resolve_left h1
        cases r with
        | nil => exact absurd rfl hr
        | cons x y => simpa using this
      have hv := ih r hrl (fun x hx => hf x (by simp [hx])) hr (.inr h48)
      have hpos : valT r ≠ 0 := by
        intro e0
        rw [e0, dec_small (by omega)] at hv
        rw [← hv] at h48
        exact h48 rfl
      rw [dec_big (by omega), show (valT r * 10 + (c.toNat - 48)) / 10 = valT r by omega, show (valT r * 10 + (c.toNat - 48)) % 10 = c.toNat - 48 by omega, hv, ec]
/-- figures are their number's numeral, behind noughts -/
theorem noughts_val (k : Nat) : valT (List.replicate k (48 : UInt8)) = 0 := by
  induction k with
  | zero => rfl
  | succ k ih => rw [List.replicate_succ', valT_snoc, ih]; rfl
/-- a numeral that is cut: the upper part's numeral, and the lower part's, with noughts ahead -/
theorem dec_cut (k : Nat) : ∀ (u : Nat), 10 ^ k ≤ u → decDigits u = decDigits (u / 10 ^ k) ++ (List.replicate (k - (decDigits (u % 10 ^ k)).length) 48 ++ decDigits (u % 10 ^ k)) ∨ k = 0 := by
  intro u hu
  rcases Nat.eq_zero_or_pos k with h0 | h0
  · exact .inr h0
  left
  have hp : 0 < 10 ^ k := Nat.pow_pos (by decide)
  have hq : u / 10 ^ k ≠ 0 := by
    have := (Nat.one_le_div_iff hp).2 hu
    omega
  have hr : u % 10 ^ k < 10 ^ k := Nat.mod_lt _ hp
  have hlen : (decDigits (u % 10 ^ k)).length ≤ k := by
    rw [decDigits_length]
    rcases Nat.lt_or_ge k (nDigits (u % 10 ^ k)) with h | h
    · exfalso
      have hv := val_dec (u % 10 ^ k)
      have hh := dec_head (u % 10 ^ k)
      by_cases hz : u % 10 ^ k = 0
      · rw [hz, nDigits_small (by decide)] at h; omega
      · have : 10 ^ (nDigits (u % 10 ^ k) - 1) ≤ u % 10 ^ k := by
          clear hv hh hr hq
          generalize u % 10 ^ k = x at *
          clear h
          induction x using Nat.strongRecOn with
          | _ x ih =>
            by_cases hx : x < 10
            · rw [nDigits_small hx]; simp; omega
            · rw [nDigits_big hx]
              have h1 := ih (x / 10) (by omega) (by omega)
              have h2 := nDigits_pos (x / 10)
              rw [show nDigits (x / 10) + 1 - 1 = (nDigits (x / 10) - 1) + 1 by omega, Nat.pow_succ]
              omega
        have h2 : 10 ^ k ≤ 10 ^ (nDigits (u % 10 ^ k) - 1) := Nat.pow_le_pow_right (by decide) (by omega)
        omega
    · exact h
  have hfig : ∀ c ∈ decDigits (u / 10 ^ k) ++ (List.replicate (k - (decDigits (u % 10 ^ k)).length) 48 ++ decDigits (u % 10 ^ k)), figB c = true := by
    intro c hc
    rcases List.mem_append.1 hc with hc | hc
    · exact dec_figs _ c hc
    · rcases List.mem_append.1 hc with hc | hc
      · rw [(List.mem_replicate.1 hc).2]; rfl
      · exact dec_figs _ c hc
  have hv : valT (decDigits (u / 10 ^ k) ++ (List.replicate (k - (decDigits (u % 10 ^ k)).length) 48 ++ decDigits (u % 10 ^ k))) = u := by
    rw [valT_append, valT_append, noughts_val, val_dec, val_dec, List.length_append, List.length_replicate, show k - (decDigits (u % 10 ^ k)).length + (decDigits (u % 10 ^ k)).length = k by omega, Nat.zero_mul, Nat.zero_add, Nat.mul_comm]
    exact Nat.div_add_mod u (10 ^ k)
  have := dec_val _ _ rfl hfig (by simp [dec_ne]) (.inr (by
    have h1 := dec_head _ hq
    have h2 := dec_ne (u / 10 ^ k)
    cases hd : decDigits (u / 10 ^ k) with
    | nil => exact absurd hd h2
    | cons x r => rw [hd] at h1; simpa using h1))
  rw [hv] at this
  exact this
end Go.Proofs.YtooonjcpdbbniaaGreatDoor
