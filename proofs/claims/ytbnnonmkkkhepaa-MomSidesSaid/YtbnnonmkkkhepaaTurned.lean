/- Rows the other way round; is the least number among them? Printed by gen_turned.py. -/
import Derived.Test.YtbnnonmkkkhepaaMom6
import Derived.Test.YtbnnonmkkkhepaaOut
namespace Go.Proofs.Ytbnnonmkkkhepaa
open Go.RowKit

/-- the other way round, in 64 bits -/
def ng (x : Int) : Int := IntKind.i64.wrap (-x)
def ngs (l : List Int) : List Int := l.map ng
theorem ngs_len (l : List Int) : (ngs l).length = l.length := by simp [ngs]
theorem ngs_take (l : List Int) (k : Nat) (h : k < l.length) : ngs (l.take (k + 1)) = ngs (l.take k) ++ [ng (iat l k)] := by
  rw [iat_snoc_take _ _ h]; simp [ngs]
theorem rows_ne : (26 : TypeId) ≠ 2 := by decide
set_option maxRecDepth 100000 in
set_option maxHeartbeats 8000000 in
theorem turned_any (u : Value) (A B C D : List Int) (w : World) (hu : IsR w u A B C D) (ha1 : A.length ≤ 1000) (hb1 : B.length ≤ 1000) (hd1 : D.length ≤ 1000) :
    Calls Try.prog 22 #[u] w fun e w' => ∃ v', e = .returned v' ∧ IsR w' v' (ngs A) (ngs B) [] (ngs D) ∧ Below w.heap.size w w' := by
  obtain ⟨i0, hi, hz0, hz1, hz2⟩ := info_parts info_i64
  obtain ⟨a, b, c, d, rfl, ha, hb, hc, hd⟩ := hu
  obtain ⟨Aa, Ca, rfl, ka1, ka2, hra⟩ := ha
  obtain ⟨Ab, Cb, rfl, kb1, kb2, hrb⟩ := hb
  obtain ⟨Ad, Cd, rfl, kd1, kd2, hrd⟩ := hd
  obtain ⟨W0, hW, hT, hO, hB⟩ := box3 w 26 26 26 #[.slice Aa A.length Ca, .slice Ab B.length Cb, c, .slice Ad D.length Cd] #[.slice none 0 0, .slice none 0 0, .slice none 0 0, .slice none 0 0] #[.slice none 0 0, .slice none 0 0, .slice none 0 0, .slice none 0 0]
  have hO : Out W0 (w.heap.size + 1 + 1) w.heap.size (fun _ => .slice none 0 0) (fun _ => []) := ⟨hO, fun i _ => ⟨by simp [is], .inl ⟨rfl, rfl⟩⟩, fun i j _ _ _ => .inl rfl⟩
  obtain ⟨g, hg⟩ : ∃ g, g = w.heap.size := ⟨_, rfl⟩
  have hW' := Lib.hid (And.intro hW hg)
  rw [← hg] at hT
  rw [show w.heap.size + 1 + 1 = g + 1 + 1 from by rw [hg]] at hO
  have hgw : w.heap.size ≤ g := by omega
  clear hW hg
  obtain ⟨hA, hR⟩ := hT
  obtain ⟨c0, c1, c2, c3⟩ := hA.cells4
  go_enter Try.func22, Try.ntmps22
  go_wp2
  rw [← hW'.out.1, ← hW'.out.2]
  go_loopw [4] (fun i wr => ∃ (k : Nat) (v : Nat → Value), i = .int .i64 k ∧ k ≤ A.length ∧ Out wr (g + 1 + 1) w.heap.size v (rows4f (ngs (A.take k)) [] [] []) ∧ Blk wr g 26 #[.slice Aa A.length Ca, .slice Ab B.length Cb, c, .slice Ad D.length Cd] ∧ Blk wr (g + 1) 26 #[.slice none 0 0, .slice none 0 0, .slice none 0 0, .slice none 0 0] ∧ Below w.heap.size w wr) (fun i _ => A.length - (intOf i).toNat)
  case atStart => exact ⟨0, _, rfl, by omega, hO.congr ⟨rfl, rfl, rfl, rfl⟩, hA, hR, hB⟩
  case round =>
    clear hA hR hB hO
    obtain ⟨k, v, rfl, hk, hO, hA, hR, hB⟩ := hrel
    obtain ⟨c0, c1, c2, c3⟩ := hA.cells4
    by_cases hlt : k < A.length
    · obtain ⟨ad, rfl, _, hx⟩ := is_cell (hra.below hB) hlt
      have HN := Lib.hid (ngs_take A k hlt)
      have g0 : (0 : Int) ≤ (k : Int) := by omega
      have g1 : (k : Int) < (A.length : Int) := by omega
      obtain ⟨y, hy⟩ : ∃ y, y = IntKind.i64.wrap (-(iat A k)) := ⟨_, rfl⟩
      have hyn := hy.symm
      have HY := Lib.hid (show ng (iat A k) = y from hyn)
      clear hy
      generalize iat A k = x at *
      obtain ⟨o0, o1, o2, o3⟩ := hO.box.cells4
      obtain ⟨s0, s1, s2, s3⟩ := (hO.box.alloc (.cells #[.int .i64 y] 2)).cells4
      have hOd := hO.drew.alloc (.cells #[.int .i64 y] 2)
      have hown := hOd.own 0 (by omega)
      have hTT := own_type hown hOd.box rows_ne
      have hlen : (ngs (A.take k)).length = k := by rw [ngs_len]; simp; omega
      have e0 : (rows4f (ngs (A.take k)) [] [] []) 0 = ngs (A.take k) := rfl
      rw [e0] at hown
      rw [hlen] at hown
      have LEN := Lib.hid hlen
      clear hlen
      go_wp2
      go_region_law (refine step_append_any _ rfl (.tmp 16) (.tmp 23) _ rfl w.heap.size 2 i0 _ 1 8 Try.underlying24 hi hz0 hz1 hz2 rfl (by omega) _ _ _ rfl hown (wr.heap.size + 1) (some ⟨wr.heap.size, 0, none⟩) 1 1 (is [y]) rfl (by exact Reads.fresh wr.drew _ _ 1 rfl) (is_one _) (by unfold maxLen; omega) (by omega) (by simp; exact Nat.le_succ_of_le hB.size) ?_; intro v' w1 hown' hgrow hat; obtain ⟨A', c', rfl, _⟩ := own_form hown'; have hbx := hOd.box.grown hgrow (fun e => hTT e.symm); obtain ⟨p0, p1, p2, p3⟩ := hbx.cells4; have z := hbx.frozen 0)
      all_goals
        go_wp2
        have hO1 := (hO.drew.alloc (.cells #[.int .i64 y] 2)).push rows_ne (c := 0) (by omega) (x := y) (by rw [e0, LEN.out]; exact hown') hgrow (by first | exact hat.imp Eq.symm id | exact hat.imp (fun e => e.symm) id)
        have hb1 := ((hB.drew.alloc hB.size (.cells #[.int .i64 y] 2)).grown hgrow (by simp; exact Nat.le_succ_of_le hB.size) (fun j e => (hown.lt j e).1)).setCell (p := ⟨g + 1 + 1, 0, none⟩) (show w.heap.size ≤ g + 1 + 1 by omega) (.slice A' (k + 1) c')
        have hA1 := ((hA.alloc (.cells #[.int .i64 y] 2)).drew.grown hgrow (fun e => own_type hown (hA.drew.alloc _) rows_ne e.symm)).far (p := ⟨g + 1 + 1, 0, none⟩) (show g ≠ g + 1 + 1 by omega) (.slice A' (k + 1) c')
        have hR1 := ((hR.alloc (.cells #[.int .i64 y] 2)).drew.grown hgrow (fun e => own_type hown (hR.drew.alloc _) rows_ne e.symm)).far (p := ⟨g + 1 + 1, 0, none⟩) (show g + 1 ≠ g + 1 + 1 by omega) (.slice A' (k + 1) c')
        refine ⟨⟨k + 1, _, by go_num, by omega, hO1.congr ?_, hA1, hR1, hb1⟩, by simp [intOf]; omega⟩
        have e' : ngs (A.take k) ++ [y] = ngs (A.take (k + 1)) := by rw [HN.out, HY.out]
        refine ⟨?_, ?_, ?_, ?_⟩ <;> first | rfl | exact e'
    · obtain rfl : k = A.length := by omega
      rw [List.take_length] at hO
      go_wp2
      go_loopw [5] (fun i wr => ∃ (k : Nat) (v : Nat → Value), i = .int .i64 k ∧ k ≤ B.length ∧ Out wr (g + 1 + 1) w.heap.size v (rows4f (ngs A) (ngs (B.take k)) [] []) ∧ Blk wr g 26 #[.slice Aa A.length Ca, .slice Ab B.length Cb, c, .slice Ad D.length Cd] ∧ Blk wr (g + 1) 26 #[.slice none 0 0, .slice none 0 0, .slice none 0 0, .slice none 0 0] ∧ Below w.heap.size w wr) (fun i _ => B.length - (intOf i).toNat)
      case atStart => exact ⟨0, _, rfl, by omega, hO, hA, hR, hB⟩
      case round =>
        clear hA hR hB hO
        obtain ⟨k, v, rfl, hk, hO, hA, hR, hB⟩ := hrel
        obtain ⟨c0, c1, c2, c3⟩ := hA.cells4
        by_cases hlt : k < B.length
        · obtain ⟨ad, rfl, _, hx⟩ := is_cell (hrb.below hB) hlt
          have HN := Lib.hid (ngs_take B k hlt)
          have g0 : (0 : Int) ≤ (k : Int) := by omega
          have g1 : (k : Int) < (B.length : Int) := by omega
          obtain ⟨y, hy⟩ : ∃ y, y = IntKind.i64.wrap (-(iat B k)) := ⟨_, rfl⟩
          have hyn := hy.symm
          have HY := Lib.hid (show ng (iat B k) = y from hyn)
          clear hy
          generalize iat B k = x at *
          obtain ⟨o0, o1, o2, o3⟩ := hO.box.cells4
          obtain ⟨s0, s1, s2, s3⟩ := (hO.box.alloc (.cells #[.int .i64 y] 2)).cells4
          have hOd := hO.drew.alloc (.cells #[.int .i64 y] 2)
          have hown := hOd.own 1 (by omega)
          have hTT := own_type hown hOd.box rows_ne
          have hlen : (ngs (B.take k)).length = k := by rw [ngs_len]; simp; omega
          have e1 : (rows4f (ngs A) (ngs (B.take k)) [] []) 1 = ngs (B.take k) := rfl
          rw [e1] at hown
          rw [hlen] at hown
          have LEN := Lib.hid hlen
          clear hlen
          go_wp2
          go_region_law (refine step_append_any _ rfl (.tmp 34) (.tmp 41) _ rfl w.heap.size 2 i0 _ 1 8 Try.underlying24 hi hz0 hz1 hz2 rfl (by omega) _ _ _ rfl hown (wr.heap.size + 1) (some ⟨wr.heap.size, 0, none⟩) 1 1 (is [y]) rfl (by exact Reads.fresh wr.drew _ _ 1 rfl) (is_one _) (by unfold maxLen; omega) (by omega) (by simp; exact Nat.le_succ_of_le hB.size) ?_; intro v' w1 hown' hgrow hat; obtain ⟨A', c', rfl, _⟩ := own_form hown'; have hbx := hOd.box.grown hgrow (fun e => hTT e.symm); obtain ⟨p0, p1, p2, p3⟩ := hbx.cells4; have z := hbx.frozen 1)
          all_goals
            go_wp2
            have hO1 := (hO.drew.alloc (.cells #[.int .i64 y] 2)).push rows_ne (c := 1) (by omega) (x := y) (by rw [e1, LEN.out]; exact hown') hgrow (by first | exact hat.imp Eq.symm id | exact hat.imp (fun e => e.symm) id)
            have hb1 := ((hB.drew.alloc hB.size (.cells #[.int .i64 y] 2)).grown hgrow (by simp; exact Nat.le_succ_of_le hB.size) (fun j e => (hown.lt j e).1)).setCell (p := ⟨g + 1 + 1, 1, none⟩) (show w.heap.size ≤ g + 1 + 1 by omega) (.slice A' (k + 1) c')
            have hA1 := ((hA.alloc (.cells #[.int .i64 y] 2)).drew.grown hgrow (fun e => own_type hown (hA.drew.alloc _) rows_ne e.symm)).far (p := ⟨g + 1 + 1, 1, none⟩) (show g ≠ g + 1 + 1 by omega) (.slice A' (k + 1) c')
            have hR1 := ((hR.alloc (.cells #[.int .i64 y] 2)).drew.grown hgrow (fun e => own_type hown (hR.drew.alloc _) rows_ne e.symm)).far (p := ⟨g + 1 + 1, 1, none⟩) (show g + 1 ≠ g + 1 + 1 by omega) (.slice A' (k + 1) c')
            refine ⟨⟨k + 1, _, by go_num, by omega, hO1.congr ?_, hA1, hR1, hb1⟩, by simp [intOf]; omega⟩
            have e' : ngs (B.take k) ++ [y] = ngs (B.take (k + 1)) := by rw [HN.out, HY.out]
            refine ⟨?_, ?_, ?_, ?_⟩ <;> first | rfl | exact e'
        · obtain rfl : k = B.length := by omega
          rw [List.take_length] at hO
          go_wp2
          go_loopw [6] (fun i wr => ∃ (k : Nat) (v : Nat → Value), i = .int .i64 k ∧ k ≤ D.length ∧ Out wr (g + 1 + 1) w.heap.size v (rows4f (ngs A) (ngs B) [] (ngs (D.take k))) ∧ Blk wr g 26 #[.slice Aa A.length Ca, .slice Ab B.length Cb, c, .slice Ad D.length Cd] ∧ Blk wr (g + 1) 26 #[.slice none 0 0, .slice none 0 0, .slice none 0 0, .slice none 0 0] ∧ Below w.heap.size w wr) (fun i _ => D.length - (intOf i).toNat)
          case atStart => exact ⟨0, _, rfl, by omega, hO, hA, hR, hB⟩
          case round =>
            clear hA hR hB hO
            obtain ⟨k, v, rfl, hk, hO, hA, hR, hB⟩ := hrel
            obtain ⟨c0, c1, c2, c3⟩ := hA.cells4
            by_cases hlt : k < D.length
            · obtain ⟨ad, rfl, _, hx⟩ := is_cell (hrd.below hB) hlt
              have HN := Lib.hid (ngs_take D k hlt)
              have g0 : (0 : Int) ≤ (k : Int) := by omega
              have g1 : (k : Int) < (D.length : Int) := by omega
              obtain ⟨y, hy⟩ : ∃ y, y = IntKind.i64.wrap (-(iat D k)) := ⟨_, rfl⟩
              have hyn := hy.symm
              have HY := Lib.hid (show ng (iat D k) = y from hyn)
              clear hy
              generalize iat D k = x at *
              obtain ⟨o0, o1, o2, o3⟩ := hO.box.cells4
              obtain ⟨s0, s1, s2, s3⟩ := (hO.box.alloc (.cells #[.int .i64 y] 2)).cells4
              have hOd := hO.drew.alloc (.cells #[.int .i64 y] 2)
              have hown := hOd.own 3 (by omega)
              have hTT := own_type hown hOd.box rows_ne
              have hlen : (ngs (D.take k)).length = k := by rw [ngs_len]; simp; omega
              have e3 : (rows4f (ngs A) (ngs B) [] (ngs (D.take k))) 3 = ngs (D.take k) := rfl
              rw [e3] at hown
              rw [hlen] at hown
              have LEN := Lib.hid hlen
              clear hlen
              go_wp2
              go_region_law (refine step_append_any _ rfl (.tmp 52) (.tmp 59) _ rfl w.heap.size 2 i0 _ 1 8 Try.underlying24 hi hz0 hz1 hz2 rfl (by omega) _ _ _ rfl hown (wr.heap.size + 1) (some ⟨wr.heap.size, 0, none⟩) 1 1 (is [y]) rfl (by exact Reads.fresh wr.drew _ _ 1 rfl) (is_one _) (by unfold maxLen; omega) (by omega) (by simp; exact Nat.le_succ_of_le hB.size) ?_; intro v' w1 hown' hgrow hat; obtain ⟨A', c', rfl, _⟩ := own_form hown'; have hbx := hOd.box.grown hgrow (fun e => hTT e.symm); obtain ⟨p0, p1, p2, p3⟩ := hbx.cells4; have z := hbx.frozen 3)
              all_goals
                go_wp2
                have hO1 := (hO.drew.alloc (.cells #[.int .i64 y] 2)).push rows_ne (c := 3) (by omega) (x := y) (by rw [e3, LEN.out]; exact hown') hgrow (by first | exact hat.imp Eq.symm id | exact hat.imp (fun e => e.symm) id)
                have hb1 := ((hB.drew.alloc hB.size (.cells #[.int .i64 y] 2)).grown hgrow (by simp; exact Nat.le_succ_of_le hB.size) (fun j e => (hown.lt j e).1)).setCell (p := ⟨g + 1 + 1, 3, none⟩) (show w.heap.size ≤ g + 1 + 1 by omega) (.slice A' (k + 1) c')
                have hA1 := ((hA.alloc (.cells #[.int .i64 y] 2)).drew.grown hgrow (fun e => own_type hown (hA.drew.alloc _) rows_ne e.symm)).far (p := ⟨g + 1 + 1, 3, none⟩) (show g ≠ g + 1 + 1 by omega) (.slice A' (k + 1) c')
                have hR1 := ((hR.alloc (.cells #[.int .i64 y] 2)).drew.grown hgrow (fun e => own_type hown (hR.drew.alloc _) rows_ne e.symm)).far (p := ⟨g + 1 + 1, 3, none⟩) (show g + 1 ≠ g + 1 + 1 by omega) (.slice A' (k + 1) c')
                refine ⟨⟨k + 1, _, by go_num, by omega, hO1.congr ?_, hA1, hR1, hb1⟩, by simp [intOf]; omega⟩
                have e' : ngs (D.take k) ++ [y] = ngs (D.take (k + 1)) := by rw [HN.out, HY.out]
                refine ⟨?_, ?_, ?_, ?_⟩ <;> first | rfl | exact e'
            · obtain rfl : k = D.length := by omega
              rw [List.take_length] at hO
              obtain ⟨o0, o1, o2, o3⟩ := hO.box.cells4
              have r0 := hO.own 0 (by omega)
              have r1 := hO.own 1 (by omega)
              have r2 := hO.own 2 (by omega)
              have r3 := hO.own 3 (by omega)
              clear hO
              generalize v 0 = v0 at *
              generalize v 1 = v1 at *
              generalize v 2 = v2 at *
              generalize v 3 = v3 at *
              obtain ⟨A0, C0, rfl, _⟩ := own_form r0
              obtain ⟨A1, C1, rfl, _⟩ := own_form r1
              obtain ⟨A2, C2, rfl, _⟩ := own_form r2
              obtain ⟨A3, C3, rfl, _⟩ := own_form r3
              have k0 := own_put4 r0 hR rows_ne (.slice A0 (ngs A).length C0) (.slice A1 (ngs B).length C1) (.slice A2 0 C2) (.slice A3 (ngs D).length C3)
              have k1 := own_put4 r1 hR rows_ne (.slice A0 (ngs A).length C0) (.slice A1 (ngs B).length C1) (.slice A2 0 C2) (.slice A3 (ngs D).length C3)
              have k2 := own_put4 r2 hR rows_ne (.slice A0 (ngs A).length C0) (.slice A1 (ngs B).length C1) (.slice A2 0 C2) (.slice A3 (ngs D).length C3)
              have k3 := own_put4 r3 hR rows_ne (.slice A0 (ngs A).length C0) (.slice A1 (ngs B).length C1) (.slice A2 0 C2) (.slice A3 (ngs D).length C3)
              have hb1 := (((hB.setCell (p := ⟨g + 1, 0, none⟩) (show w.heap.size ≤ g + 1 by omega) (.slice A0 (ngs A).length C0)).setCell (p := ⟨g + 1, 1, none⟩) (show w.heap.size ≤ g + 1 by omega) (.slice A1 (ngs B).length C1)).setCell (p := ⟨g + 1, 2, none⟩) (show w.heap.size ≤ g + 1 by omega) (.slice A2 0 C2)).setCell (p := ⟨g + 1, 3, none⟩) (show w.heap.size ≤ g + 1 by omega) (.slice A3 (ngs D).length C3)
              have P := Lib.hid (And.intro (IsI.of_own k0) (And.intro (IsI.of_own k1) (And.intro (IsI.of_own (l := []) k2) (And.intro (IsI.of_own k3) hb1))))
              clear k0 k1 k2 k3 hb1 r0 r1 r2 r3
              obtain ⟨q0, q1, q2, q3⟩ := hR.cells4
              have z0 := hR.frozen 0
              have z1 := hR.frozen 1
              have z2 := hR.frozen 2
              have z3 := hR.frozen 3
              rw [show (rows4f (ngs A) (ngs B) [] (ngs D) 0).length = (ngs A).length from rfl, show (rows4f (ngs A) (ngs B) [] (ngs D) 1).length = (ngs B).length from rfl, show (rows4f (ngs A) (ngs B) [] (ngs D) 2).length = 0 from rfl, show (rows4f (ngs A) (ngs B) [] (ngs D) 3).length = (ngs D).length from rfl] at *
              go_wp2
              obtain ⟨P1, P2, P3, P4, P5⟩ := P.out
              exact bodyPost_ret (v := .agg #[.slice A0 (ngs A).length C0, .slice A1 (ngs B).length C1, .slice A2 0 C2, .slice A3 (ngs D).length C3]) (by simp [results, Try.results22, go_sem, q0, q1, q2, q3]) rfl ⟨_, rfl, ⟨_, _, _, _, rfl, P1, P2, P3, P4⟩, P5⟩
end Go.Proofs.Ytbnnonmkkkhepaa
