/- Is the least number of 64 bits among rows? -/
import Derived.Test.YtbnnonmkkkhepaaTurned
namespace Go.Proofs.Ytbnnonmkkkhepaa
open Go.RowKit
attribute [local go_sem ↓] Go.wp_at_zero Go.wp_at_succ

def least : Int := -9223372036854775808
def hasL (l : List Int) : Bool := decide (least ∈ l)
theorem hasL_step (l : List Int) (k : Nat) (h : k < l.length) (h1 : least ∉ l.take k) (h2 : iat l k ≠ least) : least ∉ l.take (k + 1) := by
  rw [iat_snoc_take _ _ h, List.mem_append, List.mem_singleton]
  rintro (h3 | h3)
  · exact h1 h3
  · exact h2 h3.symm
set_option maxRecDepth 100000 in
set_option maxHeartbeats 8000000 in
theorem has_any (u : Value) (A B C D : List Int) (w : World) (hu : IsR w u A B C D) (ha1 : A.length ≤ 1000) (hb1 : B.length ≤ 1000) (hd1 : D.length ≤ 1000) :
    Calls Try.prog 23 #[u] w fun e w' => e = .returned (.bool (hasL (A ++ B ++ D))) ∧ Below w.heap.size w w' := by
  obtain ⟨i0, hi, hz0, hz1, hz2⟩ := info_parts info_i64
  obtain ⟨a, b, c, d, rfl, ha, hb, hc, hd⟩ := hu
  obtain ⟨Aa, Ca, rfl, ka1, ka2, hra⟩ := ha
  obtain ⟨Ab, Cb, rfl, kb1, kb2, hrb⟩ := hb
  obtain ⟨Ad, Cd, rfl, kd1, kd2, hrd⟩ := hd
  obtain ⟨r, hr⟩ : ∃ r, r = hasL (A ++ B ++ D) := ⟨_, rfl⟩
  rw [← hr]
  have HR := Lib.hid hr
  clear hr
  obtain ⟨W0, hW, hA, hB⟩ := box1 w 26 #[.slice Aa A.length Ca, .slice Ab B.length Cb, c, .slice Ad D.length Cd]
  obtain ⟨g, hg⟩ : ∃ g, g = w.heap.size := ⟨_, rfl⟩
  have hW' := Lib.hid (And.intro hW hg)
  rw [← hg] at hA
  have hgw : w.heap.size ≤ g := by omega
  clear hW hg
  have hown0 := World.ownsRow_lit W0 #[] 0 (base := w.heap.size) (e := 2) (size := 1) hB.size (by unfold maxLen; omega) rfl
  have hBn : Below w.heap.size w (W0.alloc (.cells #[] 2)).drew := (hB.alloc hB.size _).drew
  have hAn : Blk (W0.alloc (.cells #[] 2)).drew g 26 #[.slice Aa A.length Ca, .slice Ab B.length Cb, c, .slice Ad D.length Cd] := hA.alloc _
  have nA := Lib.hid (show least = -9223372036854775808 from rfl)
  go_enter Try.func23, Try.ntmps23
  go_wp2
  rw [← hW'.out.1, ← hW'.out.2]
  go_region_held3 (fun w' => w'.cell? ⟨g, 0, none⟩ = some (.slice Aa A.length Ca) ∧ w'.cell? ⟨g, 1, none⟩ = some (.slice Ab B.length Cb) ∧ w'.cell? ⟨g, 2, none⟩ = some c ∧ w'.cell? ⟨g, 3, none⟩ = some (.slice Ad D.length Cd))
    (first | exact Blk.cells4 (by assumption) | exact hA.cells4 | exact hAn.cells4)
    (first
      | (refine step_append_any _ (by rfl) (.tmp 5) (.tmp 7) _ (by rfl) w.heap.size 2 i0 _ 1 8 Try.underlying24 hi hz0 hz1 hz2 rfl (by omega) _ 0 [] (by rfl) hown0 w.heap.size Aa A.length Ca (is A) (by rfl) (hra.below hBn) (is_one _) (by unfold maxLen; omega) (by omega) hBn.size ?_; intro v1 w1 hown1 hg1 _; rw [Nat.zero_add, List.nil_append] at hown1; have hB1 := hBn.grown hg1 hBn.size (fun j e => (hown0.lt j e).1); have hA1 := hAn.grown hg1 (fun e => own_type hown0 hAn rows_ne e.symm); obtain ⟨A1, C1, rfl, _⟩ := own_form hown1)
      | (refine step_append_any _ (by rfl) (.tmp 8) (.tmp 10) _ (by rfl) w.heap.size 2 i0 _ 1 8 Try.underlying24 hi hz0 hz1 hz2 rfl (by omega) _ A.length (is A) (by rfl) hown1 w.heap.size Ab B.length Cb (is B) (by rfl) (hrb.below hB1) (is_one _) (by unfold maxLen; omega) (by omega) hB1.size ?_; intro v2 w2 hown2 hg2 _; rw [← is_append] at hown2; have hB2 := hB1.grown hg2 hB1.size (fun j e => (hown1.lt j e).1); have hA2 := hA1.grown hg2 (fun e => own_type hown1 hA1 rows_ne e.symm); obtain ⟨A2, C2, rfl, _⟩ := own_form hown2)
      | (refine step_append_any _ (by rfl) (.tmp 11) (.tmp 13) _ (by rfl) w.heap.size 2 i0 _ 1 8 Try.underlying24 hi hz0 hz1 hz2 rfl (by omega) _ (A.length + B.length) (is (A ++ B)) (by rfl) hown2 w.heap.size Ad D.length Cd (is D) (by rfl) (hrd.below hB2) (is_one _) (by unfold maxLen; omega) (by omega) hB2.size ?_; intro v3 w3 hown3 hg3 _; rw [← is_append] at hown3; have hB3 := hB2.grown hg3 hB2.size (fun j e => (hown2.lt j e).1); have hA3 := hA2.grown hg3 (fun e => own_type hown2 hA2 rows_ne e.symm); obtain ⟨A3, C3, rfl, hn3, hc3, hR3⟩ := own_form hown3))
  have hlen : A.length + B.length + D.length = (A ++ B ++ D).length := by rw [List.length_append, List.length_append]
  rw [hlen] at hR3
  rw [hlen]
  have hn : (A ++ B ++ D).length ≤ 3000 := by rw [← hlen]; omega
  clear hlen hown1 hown2 hown3 hA1 hA2 hA3 hAn hBn hown0 hB1 hB2 hg1 hg2 hg3 hB
  have HR2 : Hid (∃ L, L = A ++ B ++ D ∧ r = hasL L) := Lib.hid ⟨_, rfl, HR.out⟩
  obtain ⟨L, hL, hr⟩ := HR2.out
  rw [← hL] at hR3 hn
  rw [← hL]
  have HR3 := Lib.hid hr
  clear hL hr HR HR2
  go_wp2
  go_loop [4] (fun i => ∃ k : Nat, k ≤ L.length ∧ i = .int .i64 k ∧ Hid (least ∉ L.take k)) (fun i => L.length - (intOf i).toNat)
  case atStart => exact ⟨0, by omega, rfl, Lib.hid (by simp)⟩
  case round =>
    obtain ⟨k, hk, rfl, hno⟩ := hrel
    by_cases hlt : k < L.length
    · obtain ⟨ad, rfl, _, hx⟩ := is_cell hR3 hlt
      have HS := Lib.hid (hasL_step L k hlt hno.out)
      have HM := Lib.hid (iat_mem hlt)
      generalize iat L k = x at *
      by_cases he : x = least
      · have h1 : (x == -9223372036854775808) = true := by rw [he]; rfl
        have HT := Lib.hid (show hasL L = true from decide_eq_true (by rw [← he]; exact HM.out))
        clear he
        go_wp2
        go_ret
        exact ⟨ret_bool (by rw [HR3.out, HT.out]), hB3⟩
      · have h1 : (x == -9223372036854775808) = false := by simpa [least] using he
        have h2 : decide (x = -9223372036854775808) = false := by simpa [least] using he
        have HS2 := Lib.hid (HS.out he)
        clear he
        go_wp2
        go_round
        case rel => exact ⟨k + 1, by omega, by go_num, HS2⟩
        case measure => simp [intOf]; omega
    · obtain rfl : k = L.length := by omega
      have HF := Lib.hid (show hasL L = false from decide_eq_false (by have := hno.out; rwa [List.take_length] at this))
      go_wp2
      go_ret
      exact ⟨ret_bool (by rw [HR3.out, HF.out]), hB3⟩
end Go.Proofs.Ytbnnonmkkkhepaa
