/- Package slices at 64-bit numbers and bytes: Index, Contains, Clone, Equal; bytes.Equal. -/
import Derived.Test.YtgcebmgmmhdcpaaBytes
import Derived.Test.YtgcebmgmmhdcpaaSmall
namespace Go.Proofs.Ytgcebmgmmhdcpaa
open Go.RowKit
theorem take_not {α : Type} [Inhabited α] {l : List α} {k : Nat} {x y : α} (h : x ∉ l.take k) (e : l.take (k + 1) = l.take k ++ [y]) (hne : x ≠ y) : x ∉ l.take (k + 1) := by
  rw [e, List.mem_append, List.mem_singleton]
  rintro (h1 | h1)
  · exact h h1
  · exact hne h1
set_option maxHeartbeats 1000000 in
theorem index_i64 (v : Value) (l : List Int) (x : Int) (w : World) (h : IsI w v l) :
    Calls Try.prog 83 #[v, .int .i64 x] w fun e w' => (∃ n : Int, e = .returned (.int .i64 n) ∧ decide (0 ≤ n) = decide (x ∈ l)) ∧ w = w' := by
  obtain ⟨A, c, rfl, hc1, hc2, hr⟩ := h
  obtain ⟨r, hr0⟩ : ∃ r, r = decide (x ∈ l) := ⟨_, rfl⟩
  rw [← hr0]
  have HR := Lib.hid hr0
  clear hr0
  go_enter Try.func83, Try.ntmps83
  go_wp2
  go_loop [8] (fun i => ∃ k : Nat, k ≤ l.length ∧ i = .int .i64 k ∧ Hid (x ∉ l.take k)) (fun i => l.length - (intOf i).toNat)
  case atStart => exact ⟨0, by omega, rfl, Lib.hid (by simp)⟩
  case round =>
    obtain ⟨k, hk, rfl, hno⟩ := hrel
    by_cases hlt : k < l.length
    · obtain ⟨ad, rfl, _, hx⟩ := is_cell hr hlt
      have HS := Lib.hid (iat_snoc_take l k hlt)
      have HM := Lib.hid (iat_mem hlt)
      generalize iat l k = y at *
      by_cases he : x = y
      · have h1 : (x == y) = true := by simpa using he
        have h2 : decide (x = y) = true := by simpa using he
        have HT := Lib.hid (show decide (x ∈ l) = true from decide_eq_true (by rw [he]; exact HM.out))
        clear he
        go_wp2
        go_ret
        exact ⟨⟨k, rfl, by rw [HR.out, HT.out]; simp⟩, rfl⟩
      · have h1 : (x == y) = false := by simpa using he
        have h2 : decide (x = y) = false := by simpa using he
        have HS2 := Lib.hid (take_not hno.out HS.out he)
        clear he
        go_wp2
        go_round
        case rel => exact ⟨k + 1, by omega, by go_num, HS2⟩
        case measure => simp [intOf]; omega
    · obtain rfl : k = l.length := by omega
      have HF := Lib.hid (show decide (x ∈ l) = false from decide_eq_false (by have := hno.out; rwa [List.take_length] at this))
      go_wp2
      go_ret
      exact ⟨⟨-1, rfl, by rw [HR.out, HF.out]; rfl⟩, rfl⟩
set_option maxHeartbeats 1000000 in
theorem contains_i64 (v : Value) (l : List Int) (x : Int) (w : World) (h : IsI w v l) :
    Calls Try.prog 82 #[v, .int .i64 x] w fun e w' => e = .returned (.bool (decide (x ∈ l))) ∧ w = w' := by
  have hI := fun w h => index_i64 v l x w h
  obtain ⟨A, c, rfl, _⟩ := id h
  generalize decide (x ∈ l) = r at *
  go_enter Try.func82, Try.ntmps82
  go_wp2_with fail
  refine (hI _ h).mono ?_
  rintro e w1 ⟨⟨n, rfl, hn⟩, rfl⟩
  go_wp2
  go_ret
  exact ⟨rfl, rfl⟩
set_option maxHeartbeats 1000000 in
theorem index_u8 (v : Value) (l : List Nat) (x : Nat) (w : World) (h : IsY w v l) :
    Calls Try.prog 93 #[v, .int .u8 x] w fun e w' => (∃ n : Int, e = .returned (.int .i64 n) ∧ decide (0 ≤ n) = decide (x ∈ l)) ∧ w = w' := by
  obtain ⟨A, c, rfl, hc1, hc2, _, hr⟩ := h
  obtain ⟨r, hr0⟩ : ∃ r, r = decide (x ∈ l) := ⟨_, rfl⟩
  rw [← hr0]
  have HR := Lib.hid hr0
  clear hr0
  go_enter Try.func93, Try.ntmps93
  go_wp2
  go_loop [8] (fun i => ∃ k : Nat, k ≤ l.length ∧ i = .int .i64 k ∧ Hid (x ∉ l.take k)) (fun i => l.length - (intOf i).toNat)
  case atStart => exact ⟨0, by omega, rfl, Lib.hid (by simp)⟩
  case round =>
    obtain ⟨k, hk, rfl, hno⟩ := hrel
    by_cases hlt : k < l.length
    · obtain ⟨ad, rfl, _, hx⟩ := y_cell hr hlt
      have HS := Lib.hid (yat_snoc_take l k hlt)
      have HM := Lib.hid (yat_mem hlt)
      generalize yat l k = y at *
      by_cases he : x = y
      · have h1 : ((x : Int) == (y : Int)) = true := by simp [he]
        have h2 : decide ((x : Int) = (y : Int)) = true := by simp [he]
        have h3 : decide (x = y) = true := by simp [he]
        have HT := Lib.hid (show decide (x ∈ l) = true from decide_eq_true (by rw [he]; exact HM.out))
        clear he
        go_wp2
        go_ret
        exact ⟨⟨k, rfl, by rw [HR.out, HT.out]; simp⟩, rfl⟩
      · have h1 : ((x : Int) == (y : Int)) = false := by simp; omega
        have h2 : decide ((x : Int) = (y : Int)) = false := by simp; omega
        have h3 : decide (x = y) = false := by simp [he]
        have HS2 := Lib.hid (take_not hno.out HS.out he)
        clear he
        go_wp2
        go_round
        case rel => exact ⟨k + 1, by omega, by go_num, HS2⟩
        case measure => simp [intOf]; omega
    · obtain rfl : k = l.length := by omega
      have HF := Lib.hid (show decide (x ∈ l) = false from decide_eq_false (by have := hno.out; rwa [List.take_length] at this))
      go_wp2
      go_ret
      exact ⟨⟨-1, rfl, by rw [HR.out, HF.out]; rfl⟩, rfl⟩
set_option maxHeartbeats 1000000 in
theorem contains_u8 (v : Value) (l : List Nat) (x : Nat) (w : World) (h : IsY w v l) :
    Calls Try.prog 89 #[v, .int .u8 x] w fun e w' => e = .returned (.bool (decide (x ∈ l))) ∧ w = w' := by
  have hI := fun w h => index_u8 v l x w h
  obtain ⟨A, c, rfl, _⟩ := id h
  generalize decide (x ∈ l) = r at *
  go_enter Try.func89, Try.ntmps89
  go_wp2_with fail
  refine (hI _ h).mono ?_
  rintro e w1 ⟨⟨n, rfl, hn⟩, rfl⟩
  go_wp2
  go_ret
  exact ⟨rfl, rfl⟩
set_option maxHeartbeats 1000000 in
theorem bytesEqual_any (u v : Value) (a b : List Nat) (w : World) (ha : IsY w u a) (hb : IsY w v b) :
    Calls Try.prog 20 #[u, v] w fun e w' => e = .returned (.bool (decide (a = b))) ∧ w = w' := by
  have e : ((strY a).toList == (strY b).toList) = decide (a = b) := by
    by_cases h : a = b
    · simp [h]
    · rw [decide_eq_false h, beq_eq_false_iff_ne]; exact fun h' => h (strY_inj ha.by_ hb.by_ (strY_list h'))
  have h1 := ha.str (P := Try.prog) Try.underlying25 Try.underlying5 Try.underlying9
  have h2 := hb.str (P := Try.prog) Try.underlying25 Try.underlying5 Try.underlying9
  rw [← e]
  generalize strY a = p at *
  generalize strY b = q at *
  clear e ha hb
  go_enter Try.func20, Try.ntmps20
  go_wp2
  go_ret
  exact ⟨rfl, rfl⟩
set_option maxHeartbeats 2000000 in
/-- are two rows the same: equal lists -/
theorem equal_i64 (va vb : Value) (a b : List Int) (w : World) (ha : IsI w va a) (hb : IsI w vb b) :
    Calls Try.prog 21 #[va, vb] w fun e w' => e = .returned (.bool (decide (a = b))) ∧ ∃ n, w' = w.drewN n := by
  obtain ⟨A, ca, rfl, hca1, hca2, hra⟩ := ha
  obtain ⟨B, cb, rfl, hcb1, hcb2, hrb⟩ := hb
  generalize hd : decide (a = b) = d
  have Hd := Lib.hid hd
  clear hd
  by_cases hlen : a.length = b.length
  · have hne : ((a.length : Int) != (b.length : Int)) = false := by simp [hlen]
    have hne2 : decide (a.length = b.length) = true := decide_eq_true hlen
    have Hlen := Lib.hid hlen
    go_enter Try.func21, Try.ntmps21
    go_wp2
    go_loopw [13] (fun i wr => ∃ (j n : Nat), j ≤ a.length ∧ i = .int .i64 j ∧ Hid (a.take j = b.take j) ∧ wr = w.drewN n) (fun i _ => a.length - (intOf i).toNat)
    case atStart => exact ⟨0, 0, by omega, rfl, Lib.hid rfl, rfl⟩
    case round =>
      obtain ⟨j, n, hj, rfl, htk, rfl⟩ := hrel
      have Hne := Lib.hid (And.intro hne hne2)
      clear hne hne2 hlen
      by_cases hlt : j < a.length
      · have hltb : j < b.length := by have := Hlen.out; omega
        obtain ⟨ada, rfl, _, cja⟩ := is_cell hra hlt
        obtain ⟨adb, rfl, _, cjb⟩ := is_cell hrb hltb
        have i0 : (0 : Int) ≤ (j : Int) := by omega
        have i1 : (j : Int) < (a.length : Int) := by omega
        have i2 : (j : Int) < (b.length : Int) := by omega
        by_cases hx : iat a j = iat b j
        · have hx1 : (iat a j != iat b j) = false := by simp [hx]
          have hx2 : decide (iat a j = iat b j) = true := decide_eq_true hx
          have Hx := Lib.hid hx
          clear hx
          go_wp2
          go_quiet (fail)
          all_goals go_wp2
          refine ⟨⟨j + 1, _, by omega, by go_num, Lib.hid ?_, rfl⟩, by simp [intOf]; omega⟩
          rw [iat_snoc_take _ _ hlt, iat_snoc_take _ _ hltb, htk.out, Hx.out]
        · have hx1 : (iat a j != iat b j) = true := by simpa using hx
          have hx2 : decide (iat a j = iat b j) = false := decide_eq_false hx
          have Hx := Lib.hid hx
          clear hx
          have hab : a ≠ b := fun h => Hx.out (by rw [h])
          have Hab := Lib.hid hab
          clear hab
          go_wp2
          go_quiet (fail)
          all_goals go_wp2
          go_ret
          exact ⟨ret_bool (by rw [← Hd.out]; exact (decide_eq_false Hab.out).symm), n + nq, by rw [World.drewN_drewN]⟩
      · obtain rfl : j = a.length := by omega
        have hab : a = b := by
          have := htk.out
          rwa [List.take_of_length_le (Nat.le_refl _), List.take_of_length_le (by have := Hlen.out; omega)] at this
        have Hab := Lib.hid hab
        clear hab
        have hnl : ¬ a.length < b.length := by have := Hlen.out; omega
        go_wp2
        go_ret
        exact ⟨ret_bool (by rw [← Hd.out]; exact (decide_eq_true Hab.out).symm), _, rfl⟩
  · have hab : a ≠ b := fun h => hlen (by rw [h])
    have hne : ((a.length : Int) != (b.length : Int)) = true := by simp; omega
    have hne2 : decide (a.length = b.length) = false := decide_eq_false hlen
    have Hab := Lib.hid hab
    have Hlen := Lib.hid hlen
    clear hab hlen
    go_enter Try.func21, Try.ntmps21
    go_wp2
    go_ret
    exact ⟨ret_bool (by rw [← Hd.out]; exact (decide_eq_false Hab.out).symm), 0, rfl⟩
end Go.Proofs.Ytgcebmgmmhdcpaa
