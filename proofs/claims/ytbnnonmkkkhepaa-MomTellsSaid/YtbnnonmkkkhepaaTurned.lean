/- Rows the other way round; is the least number among them? Printed by gen_turned.py. -/
import Derived.Test.YtbnnonmkkkhepaaMom6
import Derived.Test.YtbnnonmkkkhepaaOut
namespace Go.Proofs.Ytbnnonmkkkhepaa
open Go.RowKit

/-- the other way round, in 64 bits -/
def ng (x : Int) : Int := IntKind.i64.wrap (-x)
def ngs (l : List Int) : List Int := l.map ng
theorem ngs_len (l : List Int) : (ngs l).length = l.length := by simp [ngs]
theorem ngs_take (l : List Int) (k : Nat) (h : k < l.length) : ngs (l.take (k + 1)) = ngs (l.take k) ++ [ng (iat l k)] := by
  rw [iat_snoc_take _ _ h]; simp [ngs]
theorem rows_ne : (26 : TypeId) ≠ 2 := by decide
set_option maxRecDepth 100000 in
set_option maxHeartbeats 8000000 in
theorem turned_any (u : Value) (A B C D : List Int) (w : World) (hu : IsR w u A B C D) (ha1 : A.length ≤ 1000) (hb1 : B.length ≤ 1000) (hd1 : D.length ≤ 1000) :
    Calls Try.prog 22 #[u] w fun e w' => ∃ v', e = .returned v' ∧ IsR w' v' (ngs A) (ngs B) [] (ngs D) ∧ Below w.heap.size w w' := by
  obtain ⟨i0, hi, hz0, hz1, hz2⟩ := info_parts info_i64
  obtain ⟨a, b, c, d, rfl, ha, hb, hc, hd⟩ := hu
  obtain ⟨Aa, Ca, rfl, ka1, ka2, hra⟩ := ha
  obtain ⟨Ab, Cb, rfl, kb1, kb2, hrb⟩ := hb
  obtain ⟨Ad, Cd, rfl, kd1, kd2, hrd⟩ := hd
  obtain ⟨W0, hW, hT, hO, hB⟩ := box3 w 26 26 26 #[.slice Aa A.length Ca, .slice Ab B.length Cb, c, .slice Ad D.length Cd] #[.slice none 0 0, .slice none 0 0, .slice none 0 0, .slice none 0 0] #[.slice none 0 0, .slice none 0 0, .slice none 0 0, .slice none 0 0]
  have hO : Out W0 (w.heap.size + 1 + 1) w.heap.size (fun _ => .slice none 0 0) (fun _ => []) := ⟨hO, fun i _ => ⟨by simp [is], .inl ⟨rfl, rfl⟩⟩, fun i j _ _ _ => .inl rfl⟩
  obtain ⟨g, hg⟩ : ∃ g, g = w.heap.size := ⟨_, rfl⟩
  have hW' := Lib.hid (And.intro hW hg)
  rw [← hg] at hT
  rw [show w.heap.size + 1 + 1 = g + 1 + 1 from by rw [hg]] at hO
  have hgw : w.heap.size ≤ g := by omega
  clear hW hg
  obtain ⟨hA, hR⟩ := hT
  obtain ⟨c0, c1, c2, c3⟩ := hA.cells4
  go_enter Try.func22, Try.ntmps22
  go_wp2
  rw [← hW'.out.1, ← hW'.out.2]
  go_loopw [4] (fun i wr => ∃ (k : Nat) (v : Nat → Value), i = .int .i64 k ∧ k ≤ A.length ∧ Out wr (g + 1 + 1) w.heap.size v (rows4f (ngs (A.take k)) [] [] []) ∧ Blk wr g 26 #[.slice Aa A.length Ca, .slice Ab B.length Cb, c, .slice Ad D.length Cd] ∧ Blk wr (g + 1) 26 #[.slice none 0 0, .slice none 0 0, .slice none 0 0, .slice none 0 0] ∧ Below w.heap.size w wr) (fun i _ => A.length - (intOf i).toNat)
  case atStart => exact ⟨0, _, rfl, by omega, hO.congr ⟨rfl, rfl, rfl, rfl⟩, hA, hR, hB⟩
  case round =>
    clear hA hR hB hO
    obtain ⟨k, v, rfl, hk, hO, hA, hR, hB⟩ := hrel
    obtain ⟨c0, c1, c2, c3⟩ := hA.cells4
    by_cases hlt : k < A.length
    · obtain ⟨ad, rfl, _, hx⟩ := is_cell (hra.below hB) hlt
      have HN := Lib.hid (ngs_take A k hlt)
      have g0 : (0 : Int) ≤ (k : Int) := by omega
      have g1 : (k : Int) < (A.length : Int) := by omega
      obtain ⟨y, hy⟩ : ∃ y, y = IntKind.i64.wrap (-(iat A k)) := ⟨_, rfl⟩
      have hyn := hy.symm
      have HY := Lib.hid (show ng (iat A k) = y from hyn)
      clear hy
      generalize iat A k = x at *
      obtain ⟨o0, o1, o2, o3⟩ := hO.box.cells4
      obtain ⟨s0, s1, s2, s3⟩ := (hO.box.alloc (.cells #[.int .i64 y] 2)).cells4
      have hOd := hO.drew.alloc (.cells #[.int .i64 y] 2)
      have hown := hOd.own 0 (by omega)
      have hTT := own_type hown hOd.box rows_ne
      have hlen : (ngs (A.take k)).length = k := by rw [ngs_len]; simp; omega
      have e0 : (rows4f (ngs (A.take k)) [] [] []) 0 = ngs (A.take k) := rfl
      rw [e0] at hown
      rw [hlen] at hown
      have LEN := Lib.hid hlen
      clear hlen
      go_wp2
      go_region_law (refine step_append_any _ rfl (.tmp 16) (.tmp 23) _ rfl w.heap.size 2 i0 _ 1 8 Try.underlying24 hi hz0 hz1 hz2 rfl (by omega) _ _ _ rfl hown (wr.heap.size + 1) (some ⟨wr.heap.size, 0, none⟩) 1 1 (is [y]) rfl (by exact Reads.fresh wr.drew _ _ 1 rfl) (is_one _) (by unfold maxLen; omega) (by omega) (by simp; exact Nat.le_succ_of_le hB.size) ?_; intro v' w1 hown' hgrow hat; obtain ⟨A', c', rfl, _⟩ := own_form hown'; have hbx := hOd.box.grown hgrow (fun e => hTT e.symm); obtain ⟨p0, p1, p2, p3⟩ := hbx.cells4; have z := hbx.frozen 0)
      all_goals
        go_wp2
        have hO1 := (hO.drew.alloc (.cells #[.int .i64 y] 2)).push rows_ne (c := 0) (by omega) (x := y) (by rw [e0, LEN.out]; exact hown') hgrow (by first | exact hat.imp Eq.symm id | exact hat.imp (fun e => e.symm) id)
        have hb1 := ((hB.drew.alloc hB.size (.cells #[.int .i64 y] 2)).grown hgrow (by simp; exact Nat.le_succ_of_le hB.size) (fun j e => (hown.lt j e).1)).setCell (p := ⟨g + 1 + 1, 0, none⟩) (show w.heap.size ≤ g + 1 + 1 by omega) (.slice A' (k + 1) c')
        have hA1 := ((hA.alloc (.cells #[.int .i64 y] 2)).drew.grown hgrow (fun e => own_type hown (hA.drew.alloc _) rows_ne e.symm)).far (p := ⟨g + 1 + 1, 0, none⟩) (show g ≠ g + 1 + 1 by omega) (.slice A' (k + 1) c')
        have hR1 := ((hR.alloc (.cells #[.int .i64 y] 2)).drew.grown hgrow (fun e => own_type hown (hR.drew.alloc _) rows_ne e.symm)).far (p := ⟨g + 1 + 1, 0, none⟩) (show g + 1 ≠ g + 1 + 1 by omega) (.slice A' (k + 1) c')
        refine ⟨⟨k + 1, _, by go_num, by omega, hO1.congr ?_, hA1, hR1, hb1⟩, by simp [intOf]; omega⟩
        have e' : ngs (A.take k) ++ [y] = ngs (A.take (k + 1)) := by rw [HN.out, HY.out]
        refine ⟨?_, ?_, ?_, ?_⟩ <;> first | rfl | exact e'
    · obtain rfl : k = A.length := by omega
      rw [List.take_length] at hO
      go_wp2
      go_loopw [5] (fun i wr => ∃ (k : Nat) (v : Nat → Value), i = .int .i64 k ∧ k ≤ B.length ∧ Out wr (g + 1 + 1) w.heap.size v (rows4f (ngs A) (ngs (B.take k)) [] []) ∧ Blk wr g 26 #[.slice Aa A.length Ca, .slice Ab B.length Cb, c, .slice Ad D.length Cd] ∧ Blk wr (g + 1) 26 #[.slice none 0 0, .slice none 0 0, .slice none 0 0, .slice none 0 0] ∧ Below w.heap.size w wr) (fun i _ => B.length - (intOf i).toNat)
      case atStart => exact ⟨0, _, rfl, by omega, hO, hA, hR, hB⟩
      case round =>
        clear hA hR hB hO
        obtain ⟨k, v, rfl, hk, hO, hA, hR, hB⟩ := hrel
        obtain ⟨c0, c1, c2, c3⟩ := hA.cells4
        by_cases hlt : k < B.length
        · obtain ⟨ad, rfl, _, hx⟩ := is_cell (hrb.below hB) hlt
          have HN := Lib.hid (ngs_take B k hlt)
          have g0 : (0 : Int) ≤ (k : Int) := by omega
          have g1 : (k : Int) < (B.length : Int) := by omega
          obtain ⟨y, hy⟩ : ∃ y, y = IntKind.i64.wrap (-(iat B k)) := ⟨_, rfl⟩
          have hyn := hy.symm
          have HY := Lib.hid (show ng (iat B k) = y from hyn)
          clear hy
          generalize iat B k = x at *
          obtain ⟨o0, o1, o2, o3⟩ := hO.box.cells4
          obtain ⟨s0, s1, s2, s3⟩ := (hO.box.alloc (.cells #[.int .i64 y] 2)).cells4
          have hOd := hO.drew.alloc (.cells #[.int .i64 y] 2)
          have hown := hOd.own 1 (by omega)
          have hTT := own_type hown hOd.box rows_ne
          have hlen : (ngs (B.take k)).length = k := by rw [ngs_len]; simp; omega
          have e1 : (rows4f (ngs A) (ngs (B.take k)) [] []) 1 = ngs (B.take k) := rfl
          rw [e1] at hown
          rw [hlen] at hown
          have LEN := Lib.hid hlen
          clear hlen
          go_wp2
          go_region_law (refine step_append_any _ rfl (.tmp 34) (.tmp 41) _ rfl w.heap.size 2 i0 _ 1 8 Try.underlying24 hi hz0 hz1 hz2 rfl (by omega) _ _ _ rfl hown (wr.heap.size + 1) (some ⟨wr.heap.size, 0, none⟩) 1 1 (is [y]) rfl (by exact Reads.fresh wr.drew _ _ 1 rfl) (is_one _) (by unfold maxLen; omega) (by omega) (by simp; exact Nat.le_succ_of_le hB.size) ?_; intro v' w1 hown' hgrow hat; obtain ⟨A', c', rfl, _⟩ := own_form hown'; have hbx := hOd.box.grown hgrow (fun e => hTT e.symm); obtain ⟨p0, p1, p2, p3⟩ := hbx.cells4; have z := hbx.frozen 1)
          all_goals
            go_wp2
            have hO1 := (hO.drew.alloc (.cells #[.int .i64 y] 2)).push rows_ne (c := 1) (by omega) (x := y) (by rw [e1, LEN.out]; exact hown') hgrow (by first | exact hat.imp Eq.symm id | exact hat.imp (fun e => e.symm) id)
            have hb1 := ((hB.drew.alloc hB.size (.cells #[.int .i64 y] 2)).grown hgrow (by simp; exact Nat.le_succ_of_le hB.size) (fun j e => (hown.lt j e).1)).setCell (p := ⟨g + 1 + 1, 1, none⟩) (show w.heap.size ≤ g + 1 + 1 by omega) (.slice A' (k + 1) c')
            have hA1 := ((hA.alloc (.cells #[.int .i64 y] 2)).drew.grown hgrow (fun e => own_type hown (hA.drew.alloc _) rows_ne e.symm)).far (p := ⟨g + 1 + 1, 1, none⟩) (show g ≠ g + 1 + 1 by omega) (.slice A' (k + 1) c')
            have hR1 := ((hR.alloc (.cells #[.int .i64 y] 2)).drew.grown hgrow (fun e => own_type hown (hR.drew.alloc _) rows_ne e.symm)).far (p := ⟨g + 1 + 1, 1, none⟩) (show g + 1 ≠ g + 1 + 1 by omega) (.slice A' (k + 1) c')
            refine ⟨⟨k + 1, _, by go_num, by omega, hO1.congr ?_, hA1, hR1, hb1⟩, by simp [intOf]; omega⟩
            have e' : ngs (B.take k) ++ [y] = ngs (B.take (k + 1)) := by rw [HN.out, HY.out]
            refine ⟨?_, ?_, ?_, ?_⟩ <;> first | rfl | exact e'
        · obtain rfl : k = B.length := by omega
          rw [List.take_length] at hO
          go_wp2
          go_loopw [6] (fun i wr => ∃ (k : Nat) (v : Nat → Value), i = .int .i64 k ∧ k ≤ D.length ∧ Out wr (g + 1 + 1) w.heap.size v (rows4f (ngs A) (ngs B) [] (ngs (D.take k))) ∧ Blk wr g 26 #[.slice Aa A.length Ca, .slice Ab B.length Cb, c, .slice Ad D.length Cd] ∧ Blk wr (g + 1) 26 #[.slice none 0 0, .slice none 0 0, .slice none 0 0, .slice none 0 0] ∧ Below w.heap.size w wr) (fun i _ => D.length - (intOf i).toNat)
          case atStart => exact ⟨0, _, rfl, by omega, hO, hA, hR, hB⟩
          case round =>
            clear hA hR hB hO
            obtain ⟨k, v, rfl, hk, hO, hA, hR, hB⟩ := hrel
            obtain ⟨c0, c1, c2, c3⟩ := hA.cells4
            by_cases hlt : k < D.length
            · obtain ⟨ad, rfl, _, hx⟩ := is_cell (hrd.below hB) hlt
              have HN := Lib.hid (ngs_take D k hlt)
              have g0 : (0 : Int) ≤ (k : Int) := by omega
              have g1 : (k : Int) < (D.length : Int) := by omega
              obtain ⟨y, hy⟩ : ∃ y, y = IntKind.i64.wrap (-(iat D k)) := ⟨_, rfl⟩
              have hyn := hy.symm
              have HY := Lib.hid (show ng (iat D k) = y from hyn)
              clear hy
              generalize iat D k = x at *
              obtain ⟨o0, o1, o2, o3⟩ := hO.box.cells4
              obtain ⟨s0, s1, s2, s3⟩ := (hO.box.alloc (.cells #[.int .i64 y] 2)).cells4
              have hOd := hO.drew.alloc (.cells #[.int .i64 y] 2)
              have hown := hOd.own 3 (by omega)
              have hTT := own_type hown hOd.box rows_ne
              have hlen : (ngs (D.take k)).length = k := by rw [ngs_len]; simp; omega
              have e3 : (rows4f (ngs A) (ngs B) [] (ngs (D.take k))) 3 = ngs (D.take k) := rfl
              rw [e3] at hown
              rw [hlen] at hown
              have LEN := Lib.hid hlen
              clear hlen
              go_wp2
              go_region_law (refine step_append_any _ rfl (.tmp 52) (.tmp 59) _ rfl w.heap.size 2 i0 _ 1 8 Try.underlying24 hi hz0 hz1 hz2 rfl (by omega) _ _ _ rfl hown (wr.heap.size + 1) (some ⟨wr.heap.size, 0, none⟩) 1 1 (is [y]) rfl (by exact Reads.fresh wr.drew _ _ 1 rfl) (is_one _) (by unfold maxLen; omega) (by omega) (by simp; exact Nat.le_succ_of_le hB.size) ?_; intro v' w1 hown' hgrow hat; obtain ⟨A', c', rfl, _⟩ := own_form hown'; have hbx := hOd.box.grown hgrow (fun e => hTT e.symm); obtain ⟨p0, p1, p2, p3⟩ := hbx.cells4; have z := hbx.frozen 3)
              all_goals
                go_wp2
                have hO1 := (hO.drew.alloc (.cells #[.int .i64 y] 2)).push rows_ne (c := 3) (by omega) (x := y) (by rw [e3, LEN.out]; exact hown') hgrow (by first | exact hat.imp Eq.symm id | exact hat.imp (fun e => e.symm) id)
                have hb1 := ((hB.drew.alloc hB.size (.cells #[.int .i64 y] 2)).grown hgrow (by simp; exact Nat.le_succ_of_le hB.size) (fun j e => (hown.lt j e).1)).setCell (p := ⟨g + 1 + 1, 3, none⟩) (show w.heap.size ≤ g + 1 + 1 by omega) (.slice A' (k + 1) c')
                have hA1 := ((hA.alloc (.cells #[.int .i64 y] 2)).drew.grown hgrow (fun e => own_type hown (hA.drew.alloc _) rows_ne e.symm)).far (p := ⟨g + 1 + 1, 3, none⟩) (show g ≠ g + 1 + 1 by omega) (.slice A' (k + 1) c')
                have hR1 := ((hR.alloc (.cells #[.int .i64 y] 2)).drew.grown hgrow (fun e => own_type hown (hR.drew.alloc _) rows_ne e.symm)).far (p := ⟨g + 1 + 1, 3, none⟩) (show g + 1 ≠ g + 1 + 1 by omega) (.slice A' (k + 1) c')
                refine ⟨⟨k + 1, _, by go_num, by omega, hO1.congr ?_, hA1, hR1, hb1⟩, by simp [intOf]; omega⟩
                have e' : ngs (D.take k) ++ [y] = ngs (D.take (k + 1)) := by rw [HN.out, HY.out]
                refine ⟨?_, ?_, ?_, ?_⟩ <;> first | rfl | exact e'
            · obtain rfl : k = D.length := by omega
              rw [List.take_length] at hO
              obtain ⟨o0, o1, o2, o3⟩ := hO.box.cells4
              have r0 := hO.own 0 (by omega)
              have r1 := hO.own 1 (by omega)
              have r2 := hO.own 2 (by omega)
              have r3 := hO.own 3 (by omega)
              clear hO
              generalize v 0 = v0 at *
              generalize v 1 = v1 at *
              generalize v 2 = v2 at *
              generalize v 3 = v3 at *
              obtain ⟨A0, C0, rfl, _⟩ := own_form r0
              obtain ⟨A1, C1, rfl, _⟩ := own_form r1
              obtain ⟨A2, C2, rfl, _⟩ := own_form r2
              obtain ⟨A3, C3, rfl, _⟩ := own_form r3
              have k0 := own_put4 r0 hR rows_ne (.slice A0 (ngs A).length C0) (.slice A1 (ngs B).length C1) (.slice A2 0 C2) (.slice A3 (ngs D).length C3)
              have k1 := own_put4 r1 hR rows_ne (.slice A0 (ngs A).length C0) (.slice A1 (ngs B).length C1) (.slice A2 0 C2) (.slice A3 (ngs D).length C3)
              have k2 := own_put4 r2 hR rows_ne (.slice A0 (ngs A).length C0) (.slice A1 (ngs B).length C1) (.slice A2 0 C2) (.slice A3 (ngs D).length C3)
              have k3 := own_put4 r3 hR rows_ne (.slice A0 (ngs A).length C0) (.slice A1 (ngs B).length C1) (.slice A2 0 C2) (.slice A3 (ngs D).length C3)
              have hb1 := (((hB.setCell (p := ⟨g + 1, 0, none⟩) (show w.heap.size ≤ g + 1 by omega) (.slice A0 (ngs A).length C0)).setCell (p := ⟨g + 1, 1, none⟩) (show w.heap.size ≤ g + 1 by omega) (.slice A1 (ngs B).length C1)).setCell (p := ⟨g + 1, 2, none⟩) (show w.heap.size ≤ g + 1 by omega) (.slice A2 0 C2)).setCell (p := ⟨g + 1, 3, none⟩) (show w.heap.size ≤ g + 1 by omega) (.slice A3 (ngs D).length C3)
              have P := Lib.hid (And.intro (IsI.of_own k0) (And.intro (IsI.of_own k1) (And.intro (IsI.of_own (l := []) k2) (And.intro (IsI.of_own k3) hb1))))
              clear k0 k1 k2 k3 hb1 r0 r1 r2 r3
              obtain ⟨q0, q1, q2, q3⟩ := hR.cells4
              have z0 := hR.frozen 0
              have z1 := hR.frozen 1
              have z2 := hR.frozen 2
              have z3 := hR.frozen 3
              rw [show (rows4f (ngs A) (ngs B) [] (ngs D) 0).length = (ngs A).length from rfl, show (rows4f (ngs A) (ngs B) [] (ngs D) 1).length = (ngs B).length from rfl, show (rows4f (ngs A) (ngs B) [] (ngs D) 2).length = 0 from rfl, show (rows4f (ngs A) (ngs B) [] (ngs D) 3).length = (ngs D).length from rfl] at *
              go_wp2
              obtain ⟨P1, P2, P3, P4, P5⟩ := P.out
              exact bodyPost_ret (v := .agg #[.slice A0 (ngs A).length C0, .slice A1 (ngs B).length C1, .slice A2 0 C2, .slice A3 (ngs D).length C3]) (by simp [results, Try.results22, go_sem, q0, q1, q2, q3]) rfl ⟨_, rfl, ⟨_, _, _, _, rfl, P1, P2, P3, P4⟩, P5⟩
end Go.Proofs.Ytbnnonmkkkhepaa
namespace Go.Proofs.Ytbnnonmkkkhepaa
open Go.RowKit
attribute [local go_sem ↓] Go.wp_at_zero Go.wp_at_succ

def least : Int := -9223372036854775808
def hasL (l : List Int) : Bool := decide (least ∈ l)
theorem hasL_step (l : List Int) (k : Nat) (h : k < l.length) (h1 : least ∉ l.take k) (h2 : iat l k ≠ least) : least ∉ l.take (k + 1) := by
  rw [iat_snoc_take _ _ h, List.mem_append, List.mem_singleton]
  rintro (h3 | h3)
  · exact h1 h3
  · exact h2 h3.symm
set_option maxRecDepth 100000 in
set_option maxHeartbeats 8000000 in
theorem has_any (u : Value) (A B C D : List Int) (w : World) (hu : IsR w u A B C D) (ha1 : A.length ≤ 1000) (hb1 : B.length ≤ 1000) (hd1 : D.length ≤ 1000) :
    Calls Try.prog 23 #[u] w fun e w' => e = .returned (.bool (hasL (A ++ B ++ D))) ∧ Below w.heap.size w w' := by
  obtain ⟨i0, hi, hz0, hz1, hz2⟩ := info_parts info_i64
  obtain ⟨a, b, c, d, rfl, ha, hb, hc, hd⟩ := hu
  obtain ⟨Aa, Ca, rfl, ka1, ka2, hra⟩ := ha
  obtain ⟨Ab, Cb, rfl, kb1, kb2, hrb⟩ := hb
  obtain ⟨Ad, Cd, rfl, kd1, kd2, hrd⟩ := hd
  obtain ⟨r, hr⟩ : ∃ r, r = hasL (A ++ B ++ D) := ⟨_, rfl⟩
  rw [← hr]
  have HR := Lib.hid hr
  clear hr
  obtain ⟨W0, hW, hA, hB⟩ := box1 w 26 #[.slice Aa A.length Ca, .slice Ab B.length Cb, c, .slice Ad D.length Cd]
  obtain ⟨g, hg⟩ : ∃ g, g = w.heap.size := ⟨_, rfl⟩
  have hW' := Lib.hid (And.intro hW hg)
  rw [← hg] at hA
  have hgw : w.heap.size ≤ g := by omega
  clear hW hg
  have hown0 := World.ownsRow_lit W0 #[] 0 (base := w.heap.size) (e := 2) (size := 1) hB.size (by unfold maxLen; omega) rfl
  have hBn : Below w.heap.size w (W0.alloc (.cells #[] 2)).drew := (hB.alloc hB.size _).drew
  have hAn : Blk (W0.alloc (.cells #[] 2)).drew g 26 #[.slice Aa A.length Ca, .slice Ab B.length Cb, c, .slice Ad D.length Cd] := hA.alloc _
  have nA := Lib.hid (show least = -9223372036854775808 from rfl)
  go_enter Try.func23, Try.ntmps23
  go_wp2
  rw [← hW'.out.1, ← hW'.out.2]
  go_region_held3 (fun w' => w'.cell? ⟨g, 0, none⟩ = some (.slice Aa A.length Ca) ∧ w'.cell? ⟨g, 1, none⟩ = some (.slice Ab B.length Cb) ∧ w'.cell? ⟨g, 2, none⟩ = some c ∧ w'.cell? ⟨g, 3, none⟩ = some (.slice Ad D.length Cd))
    (first | exact Blk.cells4 (by assumption) | exact hA.cells4 | exact hAn.cells4)
    (first
      | (refine step_append_any _ (by rfl) (.tmp 5) (.tmp 7) _ (by rfl) w.heap.size 2 i0 _ 1 8 Try.underlying24 hi hz0 hz1 hz2 rfl (by omega) _ 0 [] (by rfl) hown0 w.heap.size Aa A.length Ca (is A) (by rfl) (hra.below hBn) (is_one _) (by unfold maxLen; omega) (by omega) hBn.size ?_; intro v1 w1 hown1 hg1 _; rw [Nat.zero_add, List.nil_append] at hown1; have hB1 := hBn.grown hg1 hBn.size (fun j e => (hown0.lt j e).1); have hA1 := hAn.grown hg1 (fun e => own_type hown0 hAn rows_ne e.symm); obtain ⟨A1, C1, rfl, _⟩ := own_form hown1)
      | (refine step_append_any _ (by rfl) (.tmp 8) (.tmp 10) _ (by rfl) w.heap.size 2 i0 _ 1 8 Try.underlying24 hi hz0 hz1 hz2 rfl (by omega) _ A.length (is A) (by rfl) hown1 w.heap.size Ab B.length Cb (is B) (by rfl) (hrb.below hB1) (is_one _) (by unfold maxLen; omega) (by omega) hB1.size ?_; intro v2 w2 hown2 hg2 _; rw [← is_append] at hown2; have hB2 := hB1.grown hg2 hB1.size (fun j e => (hown1.lt j e).1); have hA2 := hA1.grown hg2 (fun e => own_type hown1 hA1 rows_ne e.symm); obtain ⟨A2, C2, rfl, _⟩ := own_form hown2)
      | (refine step_append_any _ (by rfl) (.tmp 11) (.tmp 13) _ (by rfl) w.heap.size 2 i0 _ 1 8 Try.underlying24 hi hz0 hz1 hz2 rfl (by omega) _ (A.length + B.length) (is (A ++ B)) (by rfl) hown2 w.heap.size Ad D.length Cd (is D) (by rfl) (hrd.below hB2) (is_one _) (by unfold maxLen; omega) (by omega) hB2.size ?_; intro v3 w3 hown3 hg3 _; rw [← is_append] at hown3; have hB3 := hB2.grown hg3 hB2.size (fun j e => (hown2.lt j e).1); have hA3 := hA2.grown hg3 (fun e => own_type hown2 hA2 rows_ne e.symm); obtain ⟨A3, C3, rfl, hn3, hc3, hR3⟩ := own_form hown3))
  have hlen : A.length + B.length + D.length = (A ++ B ++ D).length := by rw [List.length_append, List.length_append]
  rw [hlen] at hR3
  rw [hlen]
  have hn : (A ++ B ++ D).length ≤ 3000 := by rw [← hlen]; omega
  clear hlen hown1 hown2 hown3 hA1 hA2 hA3 hAn hBn hown0 hB1 hB2 hg1 hg2 hg3 hB
  have HR2 : Hid (∃ L, L = A ++ B ++ D ∧ r = hasL L) := Lib.hid ⟨_, rfl, HR.out⟩
  obtain ⟨L, hL, hr⟩ := HR2.out
  rw [← hL] at hR3 hn
  rw [← hL]
  have HR3 := Lib.hid hr
  clear hL hr HR HR2
  go_wp2
  go_loop [4] (fun i => ∃ k : Nat, k ≤ L.length ∧ i = .int .i64 k ∧ Hid (least ∉ L.take k)) (fun i => L.length - (intOf i).toNat)
  case atStart => exact ⟨0, by omega, rfl, Lib.hid (by simp)⟩
  case round =>
    obtain ⟨k, hk, rfl, hno⟩ := hrel
    by_cases hlt : k < L.length
    · obtain ⟨ad, rfl, _, hx⟩ := is_cell hR3 hlt
      have HS := Lib.hid (hasL_step L k hlt hno.out)
      have HM := Lib.hid (iat_mem hlt)
      generalize iat L k = x at *
      by_cases he : x = least
      · have h1 : (x == -9223372036854775808) = true := by rw [he]; rfl
        have HT := Lib.hid (show hasL L = true from decide_eq_true (by rw [← he]; exact HM.out))
        clear he
        go_wp2
        go_ret
        exact ⟨ret_bool (by rw [HR3.out, HT.out]), hB3⟩
      · have h1 : (x == -9223372036854775808) = false := by simpa [least] using he
        have h2 : decide (x = -9223372036854775808) = false := by simpa [least] using he
        have HS2 := Lib.hid (HS.out he)
        clear he
        go_wp2
        go_round
        case rel => exact ⟨k + 1, by omega, by go_num, HS2⟩
        case measure => simp [intOf]; omega
    · obtain rfl : k = L.length := by omega
      have HF := Lib.hid (show hasL L = false from decide_eq_false (by have := hno.out; rwa [List.take_length] at this))
      go_wp2
      go_ret
      exact ⟨ret_bool (by rw [HR3.out, HF.out]), hB3⟩
end Go.Proofs.Ytbnnonmkkkhepaa
namespace Go.Proofs.Ytbnnonmkkkhepaa

theorem rne_zero (d : Nat) (hd : 0 < d) : rne 0 d = 0 := by unfold rne; rw [if_neg (by simp)]; simp
theorem mulZ_neg (a b : Int) (f : Nat) : mulZ a (-b) f = -mulZ a b f := by
  unfold mulZ
  rw [Int.natAbs_neg]
  by_cases hb : b = 0
  · subst hb
    simp [rne_zero _ (Nat.pow_pos (by omega : 0 < 2)), sided]
  · have h : decide (-b < 0) = !decide (b < 0) := by rw [Bool.eq_iff_iff]; simp; omega
    rw [h]
    generalize rne (a.natAbs * b.natAbs) (2 ^ f) = n
    cases decide (a < 0) <;> cases decide (b < 0) <;> simp [sided]
theorem fitE_zero {z : Int} (h : fitE z = 0) : fitV z = z ∧ -9223372036854775808 ≤ z ∧ z ≤ 9223372036854775807 := by
  unfold fitE at h
  by_cases hz : -9223372036854775808 ≤ z ∧ z ≤ 9223372036854775807
  · exact ⟨(fit_in hz).1, hz⟩
  · rw [if_neg hz] at h; omega
theorem joinE_zero {e x : Int} (h : joinE e x = 0) : e = 0 ∧ x = 0 := by
  unfold joinE at h; split at h <;> simp_all
theorem stE_parts {lr mu wd : Int} {nest : Bool} {f : Nat} {w v g : Int} (h : stE lr mu wd nest f w v g = 0) :
    stD wd f w g = g + mulZ wd w f ∧ stV mu f v (stD wd f w g) = mulZ mu v f + stD wd f w g ∧
    (nest = true → stU nest mu f (stD wd f w g) (stV mu f v (stD wd f w g)) = stD wd f w g + mulZ mu (stV mu f v (stD wd f w g)) f) ∧ (nest = false → stU nest mu f (stD wd f w g) (stV mu f v (stD wd f w g)) = stV mu f v (stD wd f w g)) ∧
    stW lr f w (stU nest mu f (stD wd f w g) (stV mu f v (stD wd f w g))) = w - mulZ lr (stU nest mu f (stD wd f w g) (stV mu f v (stD wd f w g))) f := by
  unfold stE at h
  dsimp only at h
  obtain ⟨e1, h⟩ := joinE_zero h
  obtain ⟨e2, h⟩ := joinE_zero h
  obtain ⟨e3, h⟩ := joinE_zero h
  obtain ⟨e4, h⟩ := joinE_zero h
  obtain ⟨e5, h⟩ := joinE_zero h
  obtain ⟨e6, e7⟩ := joinE_zero h
  have k1 := (fitE_zero e1).1
  have k2 := (fitE_zero e2).1
  have k3 := (fitE_zero e3).1
  have k4 := (fitE_zero e4).1
  have k6 := (fitE_zero e6).1
  have k7 := (fitE_zero e7).1
  refine ⟨?_, ?_, ?_, ?_, ?_⟩
  · unfold stD; rw [k2, k1]
  · rw [stV, k4, k3]
  · intro hn; subst hn
    simp only [if_true] at e5
    obtain ⟨e8, e9⟩ := joinE_zero e5
    rw [stU, if_pos rfl, (fitE_zero e9).1, (fitE_zero e8).1]
  · intro hn; subst hn; rw [stU, if_neg (by simp)]
  · rw [stW, k7, k6]
theorem place_neg {lr mu wd : Int} {nest : Bool} {f : Nat} {w v g : Int} (h : stE lr mu wd nest f w v g = 0) (h' : stE lr mu wd nest f (-w) (-v) (-g) = 0) :
    stV mu f (-v) (stD wd f (-w) (-g)) = -stV mu f v (stD wd f w g) ∧
    stW lr f (-w) (stU nest mu f (stD wd f (-w) (-g)) (stV mu f (-v) (stD wd f (-w) (-g)))) = -stW lr f w (stU nest mu f (stD wd f w g) (stV mu f v (stD wd f w g))) := by
  obtain ⟨a1, a2, a3, a4, a5⟩ := stE_parts h
  obtain ⟨b1, b2, b3, b4, b5⟩ := stE_parts h'
  have d : stD wd f (-w) (-g) = -stD wd f w g := by rw [a1, b1, mulZ_neg]; omega
  rw [d] at b2 b3 b4 b5 ⊢
  have vv : stV mu f (-v) (-stD wd f w g) = -stV mu f v (stD wd f w g) := by rw [b2, a2, mulZ_neg]; omega
  rw [vv] at b3 b4 b5 ⊢
  refine ⟨rfl, ?_⟩
  have uu : stU nest mu f (-stD wd f w g) (-stV mu f v (stD wd f w g)) = -stU nest mu f (stD wd f w g) (stV mu f v (stD wd f w g)) := by
    cases nest
    · rw [b4 rfl, a4 rfl]
    · rw [b3 rfl, a3 rfl, mulZ_neg]; omega
  rw [uu] at b5 ⊢
  rw [b5, a5, mulZ_neg]; omega
theorem ng_of {x : Int} (h : In64 x) (hl : x ≠ least) : ng x = -x := by
  unfold ng In64 least at *
  rw [Go.IntKind.wrap_i64]; omega
theorem iat_ngs (l : List Int) (i : Nat) (h : i < l.length) : iat (ngs l) i = ng (iat l i) := by
  unfold iat ngs; simp [h]
theorem errTo_zero {lr mu wd : Int} {nest : Bool} {f : Nat} {W M G : List Int} : ∀ {n : Nat}, errTo lr mu wd nest f W M G n = 0 → ∀ i, i < n → stE lr mu wd nest f (iat W i) (iat M i) (iat G i) = 0
  | 0, _, i, hi => by omega
  | n + 1, h, i, hi => by
    obtain ⟨h1, h2⟩ := joinE_zero (show joinE (errTo lr mu wd nest f W M G n) (stE lr mu wd nest f (iat W n) (iat M n) (iat G n)) = 0 from h)
    rcases Nat.lt_or_ge i n with hlt | hge
    · exact errTo_zero h1 i hlt
    · obtain rfl : i = n := by omega
      exact h2
theorem stErr_zero {lr mu wd : Int} {nest : Bool} {f : Int} {W M G : List Int} (h : stErr lr mu wd nest f W M G = 0) : rightM lr mu wd f = true ∧ M.length = W.length ∧ G.length = W.length ∧ errTo lr mu wd nest f.toNat W M G W.length = 0 := by
  unfold stErr at h
  by_cases h1 : rightM lr mu wd f = true
  · rw [if_pos h1] at h
    by_cases h2 : M.length = W.length ∧ G.length = W.length
    · rw [if_pos h2] at h
      by_cases h3 : errTo lr mu wd nest f.toNat W M G W.length = 0
      · exact ⟨h1, h2.1, h2.2, h3⟩
      · rw [if_neg h3] at h; omega
    · rw [if_neg h2] at h; omega
  · rw [if_neg h1] at h; omega
theorem not_least {l : List Int} {i : Nat} (h : least ∉ l) (hi : i < l.length) : iat l i ≠ least := fun e => h (by rw [← e]; exact iat_mem hi)
theorem fitV_In (z : Int) : In64 (fitV z) := fitV_in z
/-- SIDES, for whole rows -/
theorem sides_ok {lr mu wd : Int} {nest : Bool} {f : Int} {W M G : List Int} (iW : AllIn W) (iM : AllIn M) (iG : AllIn G)
    (b1 : hasL (W ++ M ++ G) = false) (b2 : hasL (stWs lr mu wd nest f W M G ++ stMs lr mu wd nest f W M G ++ []) = false)
    (e1 : stErr lr mu wd nest f W M G = 0) (e2 : stErr lr mu wd nest f (ngs W) (ngs M) (ngs G) = 0) :
    stWs lr mu wd nest f (ngs W) (ngs M) (ngs G) = ngs (stWs lr mu wd nest f W M G) ∧ stMs lr mu wd nest f (ngs W) (ngs M) (ngs G) = ngs (stMs lr mu wd nest f W M G) := by
  have z1 := of_decide_eq_false b1
  have z2 := of_decide_eq_false b2
  simp only [List.append_nil, List.mem_append, not_or] at z1 z2
  obtain ⟨r1, lm, lg, t1⟩ := stErr_zero e1
  obtain ⟨_, _, _, t2⟩ := stErr_zero e2
  rw [ngs_len] at t2
  unfold stWs stMs at *
  rw [if_pos e1] at z2 ⊢
  rw [if_pos e1] at z2
  rw [if_pos e2, if_pos e1, if_pos e2, ngs_len]
  have key : ∀ i, i < W.length → plV mu wd f.toNat (ngs W) (ngs M) (ngs G) i = ng (plV mu wd f.toNat W M G i) ∧ plW lr mu wd nest f.toNat (ngs W) (ngs M) (ngs G) i = ng (plW lr mu wd nest f.toNat W M G i) := by
    intro i hi
    have s1 := errTo_zero t1 i hi
    have s2 := errTo_zero t2 i hi
    rw [iat_ngs _ _ hi, iat_ngs _ _ (by omega), iat_ngs _ _ (by omega), ng_of (iW i) (not_least z1.1.1 hi), ng_of (iM i) (not_least z1.1.2 (by omega)), ng_of (iG i) (not_least z1.2 (by omega))] at s2
    obtain ⟨p1, p2⟩ := place_neg s1 s2
    have q1 : plV mu wd f.toNat W M G i ≠ least := fun e => z2.2 (by rw [← e]; exact List.mem_map.2 ⟨i, by simpa using hi, rfl⟩)
    have q2 : plW lr mu wd nest f.toNat W M G i ≠ least := fun e => z2.1 (by rw [← e]; exact List.mem_map.2 ⟨i, by simpa using hi, rfl⟩)
    have n1 := ng_of (show In64 (plV mu wd f.toNat W M G i) from fitV_in _) q1
    have n2 := ng_of (show In64 (plW lr mu wd nest f.toNat W M G i) from fitV_in _) q2
    rw [n1, n2]
    unfold plV plW
    rw [iat_ngs _ _ hi, iat_ngs _ _ (by omega), iat_ngs _ _ (by omega), ng_of (iW i) (not_least z1.1.1 hi), ng_of (iM i) (not_least z1.1.2 (by omega)), ng_of (iG i) (not_least z1.2 (by omega))]
    exact ⟨p1, p2⟩
  unfold ngs at *
  rw [List.map_map, List.map_map]
  exact ⟨List.map_congr_left fun i hi => (key i (by simpa using hi)).2, List.map_congr_left fun i hi => (key i (by simpa using hi)).1⟩
/-- why there is no step, either way round -/
theorem sides_err (lr mu wd : Int) (nest : Bool) (f : Int) (W M G : List Int) (e1 e2 : Int) (h1 : e1 = stErr lr mu wd nest f W M G) (h2 : e2 = stErr lr mu wd nest f (ngs W) (ngs M) (ngs G)) :
    (e1 = 1 ∧ e2 = 1) ∨ (e1 = 5 ∧ e2 = 5) ∨ (e1 = 2 ∧ e2 = 2) ∨ (e1 = 2 ∧ e2 = 0) ∨ (e1 = 0 ∧ e2 = 2) ∨ (e1 = 0 ∧ e2 = 0) := by
  subst h1 h2
  unfold stErr
  simp only [ngs_len]
  by_cases a : rightM lr mu wd f = true
  · simp only [if_pos a]
    by_cases b : M.length = W.length ∧ G.length = W.length
    · simp only [if_pos b]
      by_cases c : errTo lr mu wd nest f.toNat W M G W.length = 0 <;> by_cases d : errTo lr mu wd nest f.toNat (ngs W) (ngs M) (ngs G) W.length = 0 <;> simp [c, d]
    · simp only [if_neg b]; simp
  · simp only [if_neg a]; simp
end Go.Proofs.Ytbnnonmkkkhepaa
namespace Go.Proofs.Ytbnnonmkkkhepaa

theorem sided_zero (b : Bool) : sided b 0 = 0 := by cases b <;> simp [sided]
theorem mulZ_zero_left (b : Int) (f : Nat) : mulZ 0 b f = 0 := by
  unfold mulZ
  rw [show (0 : Int).natAbs * b.natAbs = 0 from by simp, rne_zero _ (Nat.pow_pos (by omega : 0 < 2)), sided_zero]
theorem mulZ_zero_right (a : Int) (f : Nat) : mulZ a 0 f = 0 := by
  unfold mulZ
  rw [show a.natAbs * (0 : Int).natAbs = 0 from by simp, rne_zero _ (Nat.pow_pos (by omega : 0 < 2)), sided_zero]
theorem fitV_of {z : Int} (h : In64 z) : fitV z = z := (fit_in h).1
theorem fitE_of {z : Int} (h : In64 z) : fitE z = 0 := (fit_in h).2
theorem In64.zero : In64 0 := by unfold In64; omega
theorem fitV0 : fitV 0 = 0 := fitV_of In64.zero
theorem stD_plain {g : Int} (f : Nat) (w : Int) (h : In64 g) : stD 0 f w g = g := by unfold stD; rw [mulZ_zero_left, fitV0, Int.add_zero, fitV_of h]
theorem stV_plain {d : Int} (f : Nat) (v : Int) (h : In64 d) : stV 0 f v d = d := by unfold stV; rw [mulZ_zero_left, fitV0, Int.zero_add, fitV_of h]
theorem stW_still {w : Int} (f : Nat) (u : Int) (h : In64 w) : stW 0 f w u = w := by unfold stW; rw [mulZ_zero_left, fitV0, Int.sub_zero, fitV_of h]
theorem list_ext_iat {l l' : List Int} (h : l.length = l'.length) (k : ∀ i, i < l.length → iat l i = iat l' i) : l = l' := by
  apply List.ext_getElem h
  intro i h1 h2
  have := k i h1
  unfold iat at this
  rw [List.getElem?_eq_getElem h1, List.getElem?_eq_getElem h2] at this
  simpa using this
theorem iat_map (g : Nat → Int) (n i : Nat) (h : i < n) : iat ((List.range n).map g) i = g i := by unfold iat; simp [h]
theorem stWs_at {lr mu wd : Int} {nest : Bool} {f : Int} {W M G : List Int} (e : stErr lr mu wd nest f W M G = 0) {i : Nat} (h : i < W.length) : iat (stWs lr mu wd nest f W M G) i = plW lr mu wd nest f.toNat W M G i := by
  unfold stWs; rw [if_pos e, iat_map _ _ _ h]
theorem stMs_at {lr mu wd : Int} {nest : Bool} {f : Int} {W M G : List Int} (e : stErr lr mu wd nest f W M G = 0) {i : Nat} (h : i < W.length) : iat (stMs lr mu wd nest f W M G) i = plV mu wd f.toNat W M G i := by
  unfold stMs; rw [if_pos e, iat_map _ _ _ h]
theorem stWs_size {lr mu wd : Int} {nest : Bool} {f : Int} {W M G : List Int} (e : stErr lr mu wd nest f W M G = 0) : (stWs lr mu wd nest f W M G).length = W.length := by unfold stWs; rw [if_pos e]; simp
theorem stMs_size {lr mu wd : Int} {nest : Bool} {f : Int} {W M G : List Int} (e : stErr lr mu wd nest f W M G = 0) : (stMs lr mu wd nest f W M G).length = W.length := by unfold stMs; rw [if_pos e]; simp
/-- without momentum and decay a velocity is the gradient, and a weight goes by the rate times it -/
theorem plain_runs {lr f : Int} {W M G : List Int} (iW : AllIn W) (iG : AllIn G) (e : stErr lr 0 0 false f W M G = 0) :
    stMs lr 0 0 false f W M G = G ∧ (stWs lr 0 0 false f W M G).length = W.length ∧ ∀ i, i < W.length → iat (stWs lr 0 0 false f W M G) i = iat W i - fitV (mulZ lr (iat G i) f.toNat) ∧ In64 (iat W i - fitV (mulZ lr (iat G i) f.toNat)) := by
  obtain ⟨_, lm, lg, t⟩ := stErr_zero e
  refine ⟨list_ext_iat (by rw [stMs_size e, lg]) fun i hi => ?_, stWs_size e, fun i hi => ?_⟩
  · rw [stMs_size e] at hi
    rw [stMs_at e hi]
    unfold plV
    rw [stD_plain _ _ (iG i), stV_plain _ _ (iG i)]
  · rw [stWs_at e hi]
    have s := errTo_zero t i hi
    obtain ⟨_, _, _, a4, a5⟩ := stE_parts s
    unfold plW
    rw [stD_plain _ _ (iG i), stV_plain _ _ (iG i)] at a4 a5 ⊢
    rw [a4 rfl] at a5 ⊢
    have hz : fitV (mulZ lr (iat G i) f.toNat) = mulZ lr (iat G i) f.toNat := by
      unfold stE at s
      dsimp only at s
      rw [stD_plain _ _ (iG i), stV_plain _ _ (iG i)] at s
      obtain ⟨_, s⟩ := joinE_zero s
      obtain ⟨_, s⟩ := joinE_zero s
      obtain ⟨_, s⟩ := joinE_zero s
      obtain ⟨_, s⟩ := joinE_zero s
      obtain ⟨_, s⟩ := joinE_zero s
      obtain ⟨s, _⟩ := joinE_zero s
      rw [a4 rfl] at s
      exact (fitE_zero s).1
    have hw : In64 (stW lr f.toNat (iat W i) (iat G i)) := fitV_in _
    rw [hz]
    rw [a5] at hw ⊢
    exact ⟨rfl, hw⟩
/-- with no rate weights stay -/
theorem still_runs {mu f : Int} {nest : Bool} {W M G : List Int} (iW : AllIn W) (e : stErr 0 mu 0 nest f W M G = 0) : stWs 0 mu 0 nest f W M G = W :=
  list_ext_iat (stWs_size e) fun i hi => by
    rw [stWs_size e] at hi
    rw [stWs_at e hi]
    unfold plW
    rw [stW_still _ _ (iW i)]
theorem iat_zeros (n i : Nat) : iat (List.replicate n 0) i = 0 := by
  unfold iat
  by_cases h : i < n
  · simp [h]
  · rw [List.getElem?_eq_none (by simpa using h)]; rfl
theorem stE_none {lr mu : Int} {nest : Bool} {f : Nat} {w : Int} (h : In64 w) : stE lr mu 0 nest f w 0 0 = 0 ∧ stV mu f 0 (stD 0 f w 0) = 0 ∧ stW lr f w (stU nest mu f (stD 0 f w 0) (stV mu f 0 (stD 0 f w 0))) = w := by
  have d : stD 0 f w 0 = 0 := stD_plain f w In64.zero
  have v : stV mu f 0 0 = 0 := by unfold stV; rw [mulZ_zero_right, fitV0]; exact fitV0
  have u : stU nest mu f 0 0 = 0 := by
    unfold stU; cases nest
    · rfl
    · rw [if_pos rfl, mulZ_zero_right, fitV0]; exact fitV0
  have x : stW lr f w 0 = w := by unfold stW; rw [mulZ_zero_right, fitV0, Int.sub_zero, fitV_of h]
  refine ⟨?_, by rw [d, v], by rw [d, v, u, x]⟩
  have z : fitE 0 = 0 := fitE_of In64.zero
  unfold stE
  dsimp only
  rw [d, v, u, mulZ_zero_left, mulZ_zero_right, mulZ_zero_right, fitV0, Int.sub_zero, Int.add_zero, fitE_of h, z]
  cases nest <;> simp [joinE]
/-- without gradients, velocities and decay all stays -/
theorem none_runs (lr mu f : Int) (nest : Bool) {W : List Int} (iW : AllIn W) :
    stErr lr mu 0 nest f W (List.replicate W.length 0) (List.replicate W.length 0) = (if rightM lr mu 0 f = true then 0 else 1) ∧
    (rightM lr mu 0 f = true → stWs lr mu 0 nest f W (List.replicate W.length 0) (List.replicate W.length 0) = W ∧ stMs lr mu 0 nest f W (List.replicate W.length 0) (List.replicate W.length 0) = List.replicate W.length 0) := by
  have t : ∀ n, errTo lr mu 0 nest f.toNat W (List.replicate W.length 0) (List.replicate W.length 0) n = 0 := by
    intro n
    induction n with
    | zero => rfl
    | succ n ih =>
      show joinE (errTo lr mu 0 nest f.toNat W (List.replicate W.length 0) (List.replicate W.length 0) n) (stE lr mu 0 nest f.toNat (iat W n) (iat (List.replicate W.length 0) n) (iat (List.replicate W.length 0) n)) = 0
      rw [ih, iat_zeros, (stE_none (iW n)).1]; rfl
  have e : stErr lr mu 0 nest f W (List.replicate W.length 0) (List.replicate W.length 0) = (if rightM lr mu 0 f = true then 0 else 1) := by
    unfold stErr
    by_cases h : rightM lr mu 0 f = true
    · rw [if_pos h, if_pos h, if_pos (by simp), if_pos (t _)]
    · rw [if_neg h, if_neg h]
  refine ⟨e, fun h => ?_⟩
  rw [if_pos h] at e
  refine ⟨list_ext_iat (stWs_size e) fun i hi => ?_, list_ext_iat (by rw [stMs_size e]; simp) fun i hi => ?_⟩
  · rw [stWs_size e] at hi
    rw [stWs_at e hi]
    unfold plW
    rw [iat_zeros]
    exact (stE_none (iW i)).2.2
  · rw [stMs_size e] at hi
    rw [stMs_at e hi]
    unfold plV
    rw [iat_zeros]
    exact (stE_none (lr := lr) (nest := nest) (iW i)).2.1
end Go.Proofs.Ytbnnonmkkkhepaa
namespace Go.Proofs.Ytbnnonmkkkhepaa

theorem iat_left {A : List Int} (B : List Int) {i : Nat} (h : i < A.length) : iat (A ++ B) i = iat A i := by
  unfold iat; rw [List.getElem?_append_left h]
theorem iat_right (A B : List Int) (i : Nat) : iat (A ++ B) (A.length + i) = iat B i := by
  unfold iat; rw [List.getElem?_append_right (by omega), Nat.add_sub_cancel_left]
theorem errTo_left {lr mu wd : Int} {nest : Bool} {f : Nat} {W M G W' M' G' : List Int} (hm : M.length = W.length) (hg : G.length = W.length) :
    ∀ n, n ≤ W.length → errTo lr mu wd nest f (W ++ W') (M ++ M') (G ++ G') n = errTo lr mu wd nest f W M G n
  | 0, _ => rfl
  | n + 1, h => by
    show joinE _ (stE lr mu wd nest f (iat (W ++ W') n) (iat (M ++ M') n) (iat (G ++ G') n)) = joinE _ (stE lr mu wd nest f (iat W n) (iat M n) (iat G n))
    rw [errTo_left hm hg n (by omega), iat_left _ (by omega), iat_left _ (by omega), iat_left _ (by omega)]
theorem errTo_both {lr mu wd : Int} {nest : Bool} {f : Nat} {W M G W' M' G' : List Int} (hm : M.length = W.length) (hg : G.length = W.length) :
    ∀ k, errTo lr mu wd nest f (W ++ W') (M ++ M') (G ++ G') (W.length + k) = joinE (errTo lr mu wd nest f W M G W.length) (errTo lr mu wd nest f W' M' G' k)
  | 0 => by
    rw [Nat.add_zero, errTo_left hm hg _ (Nat.le_refl _)]
    show _ = joinE _ 0
    unfold joinE; split <;> simp_all
  | k + 1 => by
    have e1 := iat_right W W' k
    have e2 := iat_right M M' k
    have e3 := iat_right G G' k
    rw [hm] at e2
    rw [hg] at e3
    show joinE (errTo lr mu wd nest f (W ++ W') (M ++ M') (G ++ G') (W.length + k)) (stE lr mu wd nest f (iat (W ++ W') (W.length + k)) (iat (M ++ M') (W.length + k)) (iat (G ++ G') (W.length + k))) = _
    rw [errTo_both hm hg k, e1, e2, e3, joinE_assoc]; rfl
/-- APART, for whole rows -/
theorem apart_runs (lr mu wd : Int) (nest : Bool) (f : Int) (W M G W' M' G' : List Int) (e g h : Int) (xs ys xs' ys' zs us : List Int)
    (he : e = stErr lr mu wd nest f W M G) (hg : g = stErr lr mu wd nest f W' M' G') (hh : h = stErr lr mu wd nest f (W ++ W') (M ++ M') (G ++ G'))
    (hx : xs = stWs lr mu wd nest f W M G) (hy : ys = stMs lr mu wd nest f W M G) (hx' : xs' = stWs lr mu wd nest f W' M' G') (hy' : ys' = stMs lr mu wd nest f W' M' G')
    (hz : zs = stWs lr mu wd nest f (W ++ W') (M ++ M') (G ++ G')) (hu : us = stMs lr mu wd nest f (W ++ W') (M ++ M') (G ++ G')) :
    (e = 1 ∧ g = 1 ∧ h = 1) ∨ e = 5 ∨ (e = 0 ∧ g = 5) ∨ (e = 2 ∧ g = 5) ∨ (e = 0 ∧ g = 2 ∧ h = 2) ∨ (e = 2 ∧ g = 0 ∧ h = 2) ∨ (e = 2 ∧ g = 2 ∧ h = 2) ∨ (e = 0 ∧ g = 0 ∧ h = 0 ∧ zs = xs ++ xs' ∧ us = ys ++ ys') := by
  by_cases a : rightM lr mu wd f = true
  · by_cases b : M.length = W.length ∧ G.length = W.length
    · have e1 : e = if errTo lr mu wd nest f.toNat W M G W.length = 0 then 0 else 2 := by rw [he]; unfold stErr; rw [if_pos a, if_pos b]
      by_cases b' : M'.length = W'.length ∧ G'.length = W'.length
      · have g1 : g = if errTo lr mu wd nest f.toNat W' M' G' W'.length = 0 then 0 else 2 := by rw [hg]; unfold stErr; rw [if_pos a, if_pos b']
        have h1 : h = if joinE (errTo lr mu wd nest f.toNat W M G W.length) (errTo lr mu wd nest f.toNat W' M' G' W'.length) = 0 then 0 else 2 := by
          rw [hh]; unfold stErr
          rw [if_pos a, if_pos (by simp only [List.length_append]; omega), List.length_append, errTo_both b.1 b.2]
        by_cases c : errTo lr mu wd nest f.toNat W M G W.length = 0
        · by_cases d : errTo lr mu wd nest f.toNat W' M' G' W'.length = 0
          · rw [if_pos c] at e1
            rw [if_pos d] at g1
            rw [if_pos (by rw [c, d]; rfl)] at h1
            refine .inr (.inr (.inr (.inr (.inr (.inr (.inr ⟨e1, g1, h1, ?_, ?_⟩))))))
            · subst e1 g1 h1
              apply list_ext_iat
              · rw [hz, stWs_size hh.symm, hx, hx', List.length_append, List.length_append, stWs_size he.symm, stWs_size hg.symm]
              · intro i hi
                rw [hz, stWs_size hh.symm, List.length_append] at hi
                rw [hz, stWs_at hh.symm (by rw [List.length_append]; exact hi)]
                rcases Nat.lt_or_ge i W.length with hlt | hge
                · rw [iat_left _ (by rw [hx, stWs_size he.symm]; exact hlt), hx, stWs_at he.symm hlt]
                  unfold plW
                  rw [iat_left _ hlt, iat_left _ (by omega), iat_left _ (by omega)]
                · obtain ⟨j, rfl⟩ := Nat.exists_eq_add_of_le hge
                  have n1 := iat_right xs xs' j
                  rw [hx, stWs_size he.symm, ← hx] at n1
                  have e1 := iat_right W W' j
                  have e2 := iat_right M M' j
                  have e3 := iat_right G G' j
                  rw [b.1] at e2
                  rw [b.2] at e3
                  rw [n1, hx', stWs_at hg.symm (by omega)]
                  unfold plW
                  rw [e1, e2, e3]
            · subst e1 g1 h1
              apply list_ext_iat
              · rw [hu, stMs_size hh.symm, hy, hy', List.length_append, List.length_append, stMs_size he.symm, stMs_size hg.symm]
              · intro i hi
                rw [hu, stMs_size hh.symm, List.length_append] at hi
                rw [hu, stMs_at hh.symm (by rw [List.length_append]; exact hi)]
                rcases Nat.lt_or_ge i W.length with hlt | hge
                · rw [iat_left _ (by rw [hy, stMs_size he.symm]; exact hlt), hy, stMs_at he.symm hlt]
                  unfold plV
                  rw [iat_left _ hlt, iat_left _ (by omega), iat_left _ (by omega)]
                · obtain ⟨j, rfl⟩ := Nat.exists_eq_add_of_le hge
                  have n1 := iat_right ys ys' j
                  rw [hy, stMs_size he.symm, ← hy] at n1
                  have e1 := iat_right W W' j
                  have e2 := iat_right M M' j
                  have e3 := iat_right G G' j
                  rw [b.1] at e2
                  rw [b.2] at e3
                  rw [n1, hy', stMs_at hg.symm (by omega)]
                  unfold plV
                  rw [e1, e2, e3]
          · rw [if_pos c] at e1
            rw [if_neg d] at g1
            rw [if_neg (by rw [c]; exact d)] at h1
            exact .inr (.inr (.inr (.inr (.inl ⟨e1, g1, h1⟩))))
        · rw [if_neg c] at e1
          rw [if_neg (by unfold joinE; rw [if_neg c]; exact c)] at h1
          by_cases d : errTo lr mu wd nest f.toNat W' M' G' W'.length = 0
          · rw [if_pos d] at g1
            exact .inr (.inr (.inr (.inr (.inr (.inl ⟨e1, g1, h1⟩)))))
          · rw [if_neg d] at g1
            exact .inr (.inr (.inr (.inr (.inr (.inr (.inl ⟨e1, g1, h1⟩))))))
      · have g1 : g = 5 := by rw [hg]; unfold stErr; rw [if_pos a, if_neg b']
        by_cases c : errTo lr mu wd nest f.toNat W M G W.length = 0
        · rw [if_pos c] at e1; exact .inr (.inr (.inl ⟨e1, g1⟩))
        · rw [if_neg c] at e1; exact .inr (.inr (.inr (.inl ⟨e1, g1⟩)))
    · exact .inr (.inl (by rw [he]; unfold stErr; rw [if_pos a, if_neg b]))
  · refine .inl ⟨?_, ?_, ?_⟩
    · rw [he]; unfold stErr; rw [if_neg a]
    · rw [hg]; unfold stErr; rw [if_neg a]
    · rw [hh]; unfold stErr; rw [if_neg a]
end Go.Proofs.Ytbnnonmkkkhepaa
