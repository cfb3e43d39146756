/- The document's step of rows (layer 17): the loop. Printed by gen_tells17b.py. -/
import Derived.Test.YtbnnonmkkkhepaaTells17a
namespace Go.Proofs.Ytbnnonmkkkhepaa
open Go.RowKit
attribute [local go_sem ↓] Go.wp_at_zero Go.wp_at_succ


set_option maxRecDepth 100000 in
set_option maxHeartbeats 8000000 in
theorem Step17_run (lr mu wd : Int) (nest : Bool) (kf : Nat) (vW vM vV vG : Value) (W M G : List Int) (wS : World) (hW : IsI wS vW W) (hM : IsI wS vM M) (hG : IsI wS vG G)
    (hlr : In64 lr) (hmu : In64 mu) (hwd : In64 wd) (iW : AllIn W) (iM : AllIn M) (iG : AllIn G) (hr : rightM lr mu wd kf = true) (hm : M.length = W.length) (hg : G.length = W.length) (hn : W.length ≤ 1000000) :
    Calls Try.prog 11 #[.agg #[.int .i64 lr, .int .i64 mu, .int .i64 wd, .bool nest], .int .i64 kf, .agg #[vW, vM, vV, vG]] wS fun x w' =>
      (errTo lr mu wd nest kf W M G W.length ≠ 0 → x = .returned (.tuple #[.agg #[.slice none 0 0, .slice none 0 0, .slice none 0 0, .slice none 0 0], .int .i64 2])) ∧
      (errTo lr mu wd nest kf W M G W.length = 0 → ∃ r, x = .returned (.tuple #[r, .int .i64 0]) ∧ IsR w' r ((List.range W.length).map (plW lr mu wd nest kf W M G)) ((List.range W.length).map (plV mu wd kf W M G)) [] []) ∧ Below wS.heap.size wS w' := by
  have hk40 : kf ≤ 40 := by have := (rightM_f hr).2; omega
  have hR := fun w => right17_any lr mu wd kf nest w
  rw [hr] at hR
  have hS := fun i w => step17_any lr mu wd nest kf (iat W i) (iat M i) (iat G i) w hk40 hlr hmu hwd (iW i) (iM i) (iG i)
  have hF : (∀ i, (velN mu wd kf (iat W i) (iat M i) (iat G i)).1 = plV mu wd kf W M G i) ∧ (∀ i, (newN lr mu wd nest kf (iat W i) (iat M i) (iat G i)).1 = plW lr mu wd nest kf W M G i) ∧ (∀ i, ((newN lr mu wd nest kf (iat W i) (iat M i) (iat G i)).2 && (velN mu wd kf (iat W i) (iat M i) (iat G i)).2) = decide (plE lr mu wd nest kf W M G i = 0)) :=
    ⟨fun i => rfl, fun i => newN_eq .., fun i => okN_eq ..⟩
  obtain ⟨fa, hfa⟩ : ∃ f : Nat → Int × Bool, f = fun i => velN mu wd kf (iat W i) (iat M i) (iat G i) := ⟨_, rfl⟩
  obtain ⟨fc, hfc⟩ : ∃ f : Nat → Int × Bool, f = fun i => newN lr mu wd nest kf (iat W i) (iat M i) (iat G i) := ⟨_, rfl⟩
  have hF : (∀ i, (fa i).1 = plV mu wd kf W M G i) ∧ (∀ i, (fc i).1 = plW lr mu wd nest kf W M G i) ∧ (∀ i, ((fc i).2 && (fa i).2) = decide (plE lr mu wd nest kf W M G i = 0)) := by rw [hfa, hfc]; exact hF
  have hS : ∀ (i : Nat) (w : World), Calls Try.prog 25 #[.agg #[.int .i64 lr, .int .i64 mu, .int .i64 wd, .bool nest], .int .i64 kf, .agg #[.int .i64 (iat W i), .int .i64 (iat M i), .int .i64 (iat G i)]] w fun e w' => e = .returned (.tuple #[num17 (fa i).1 (fa i).2, num17 (fc i).1 (fc i).2]) ∧ Below w.heap.size w w' := by rw [hfa, hfc]; exact hS
  clear hfa hfc
  have HF := Lib.hid hF
  clear hF
  obtain ⟨i0, hi, hz0, hz1, hz2⟩ := info_parts info_i64
  obtain ⟨Aw, Cw, rfl, kw1, kw2, hrw⟩ := hW
  obtain ⟨Am, Cm, rfl, km1, km2, hrm⟩ := hM
  obtain ⟨Ag, Cg, rfl, kg1, kg2, hrg⟩ := hG
  rw [hm] at hrm ⊢
  rw [hg] at hrg ⊢
  obtain ⟨n, hn_⟩ : ∃ n, n = W.length := ⟨_, rfl⟩
  have HN := Lib.hid (And.intro hn_ (And.intro hm hg))
  rw [← hn_] at hrw hrm hrg hn kw1 ⊢
  rw [hm, ← hn_] at km1
  rw [hg, ← hn_] at kg1
  clear hn_ hm hg hr hlr hmu hwd iW iM iG
  obtain ⟨W0, hW, hT, hO, hB⟩ := box3 wS 23 26 26 #[.int .i64 lr, .int .i64 mu, .int .i64 wd, .bool nest] #[.slice Aw n Cw, .slice Am n Cm, vV, .slice Ag n Cg] #[.slice none 0 0, .slice none 0 0, .slice none 0 0, .slice none 0 0]
  obtain ⟨g, hg⟩ : ∃ g, g = wS.heap.size := ⟨_, rfl⟩
  have hW' := Lib.hid (And.intro hW hg)
  rw [← hg] at hT hO
  have hgw : wS.heap.size ≤ g := by omega
  clear hW hg
  obtain ⟨hA, hL⟩ := hT
  go_enter Try.func11, Try.ntmps11
  go_wp2_with fail
  rw [← hW'.out.1, ← hW'.out.2]
  refine (hR _).mono ?_
  rintro x w1 ⟨rfl, b1⟩
  have h_ := hA.below b1 hA.lt
  clear hA
  have hA := h_
  have h_2 := hL.below b1 hL.lt
  clear hL
  have hL := h_2
  have h_3 := hO.below b1 hO.lt
  clear hO
  have hO := h_3
  have hBe := hB.trans (b1.mono hB.size)
  clear hB h_ h_2 h_3 hR b1 W0 hW'
  have hB := hBe
  clear hBe
  have l0 := hL.cell 0
  have l1 := hL.cell 1
  have l3 := hL.cell 3
  go_wp2
  obtain ⟨X, hX⟩ : ∃ X, X = w1.heap.size := ⟨_, rfl⟩
  obtain ⟨w2, h2⟩ : ∃ W, W = w1.alloc (.cells #[.slice none 0 0, .slice none 0 0, .slice none 0 0, .slice none 0 0] 26) := ⟨_, rfl⟩
  have hQ : Out w2 X wS.heap.size (fun _ => .slice none 0 0) (fun _ => []) := by rw [h2, hX]; exact Out.start w1 26 rfl hB.size
  have hA2 := hA.alloc (.cells #[.slice none 0 0, .slice none 0 0, .slice none 0 0, .slice none 0 0] 26)
  have hL2 := hL.alloc (.cells #[.slice none 0 0, .slice none 0 0, .slice none 0 0, .slice none 0 0] 26)
  have hO2 := hO.alloc (.cells #[.slice none 0 0, .slice none 0 0, .slice none 0 0, .slice none 0 0] 26)
  have hB2 := hB.alloc hB.size (.cells #[.slice none 0 0, .slice none 0 0, .slice none 0 0, .slice none 0 0] 26)
  have oX : g + 1 + 1 < X := by rw [hX]; exact hO.lt
  rw [← h2] at hA2 hL2 hO2 hB2 ⊢
  rw [← hX]
  clear hA hL hO hB l0 l1 l3 h2 hX w1
  go_loopw [9] (fun i wr => ∃ (k : Nat) (v : Nat → Value), i = .int .i64 k ∧ k ≤ n ∧ Hid (errTo lr mu wd nest kf W M G k = 0) ∧ Out wr X wS.heap.size v (rows4f ((List.range k).map (plW lr mu wd nest kf W M G)) ((List.range k).map (plV mu wd kf W M G)) [] []) ∧ Blk wr g 23 #[.int .i64 lr, .int .i64 mu, .int .i64 wd, .bool nest] ∧ Blk wr (g + 1) 26 #[.slice Aw n Cw, .slice Am n Cm, vV, .slice Ag n Cg] ∧ Blk wr (g + 1 + 1) 26 #[.slice none 0 0, .slice none 0 0, .slice none 0 0, .slice none 0 0] ∧ Below wS.heap.size wS wr) (fun i _ => n - (intOf i).toNat)
  case atStart => exact ⟨0, _, rfl, by omega, Lib.hid rfl, hQ.congr ⟨rfl, rfl, rfl, rfl⟩, hA2, hL2, hO2, hB2⟩
  case round =>
    clear hQ hA2 hL2 hO2 hB2
    obtain ⟨k, v, rfl, hk, hE, hO, hA, hL, hR, hB⟩ := hrel
    obtain ⟨l0, l1, l2, l3⟩ := hL.cells4
    by_cases hlt : k < n
    · obtain ⟨adw, rfl, _, hxw⟩ := is_cell (hrw.below hB) hlt
      obtain ⟨adm, rfl, _, hxm⟩ := is_cell (hrm.below hB) hlt
      obtain ⟨adg, rfl, _, hxg⟩ := is_cell (hrg.below hB) hlt
      have g0 : (0 : Int) ≤ (k : Int) := by omega
      have g1 : (k : Int) < (n : Int) := by omega
      obtain ⟨p, hp⟩ : ∃ p, p = fa k := ⟨_, rfl⟩
      obtain ⟨q, hq⟩ : ∃ q, q = fc k := ⟨_, rfl⟩
      have hSk := fun w => hS k w
      rw [← hp, ← hq] at hSk
      have hok := HF.out.2.2 k
      have hpv := HF.out.1 k
      have hqw := HF.out.2.1 k
      rw [← hp, ← hq] at hok
      rw [← hp] at hpv
      rw [← hq] at hqw
      have HK := Lib.hid (And.intro hpv (And.intro hqw hok))
      clear hp hq hok hpv hqw
      generalize iat W k = xw at *
      generalize iat M k = xm at *
      generalize iat G k = xg at *
      obtain ⟨m0, m1, m2, m3⟩ := hA.cells4
      go_upto_region 9 with fail
      have hBel0 : Below wr.heap.size wr wr.drew := bdrew wr
      refine wp_region_noPanic ?_
      refine wp_region_held_drew (S := fun w' => w'.cell? ⟨g, 0, none⟩ = some (.int .i64 lr) ∧ w'.cell? ⟨g, 1, none⟩ = some (.int .i64 mu) ∧ w'.cell? ⟨g, 2, none⟩ = some (.int .i64 wd) ∧ w'.cell? ⟨g, 3, none⟩ = some (.bool nest) ∧ w'.cell? ⟨g + 1, 0, none⟩ = some (.slice (some adw) n Cw) ∧ w'.cell? ⟨g + 1, 1, none⟩ = some (.slice (some adm) n Cm) ∧ w'.cell? ⟨g + 1, 3, none⟩ = some (.slice (some adg) n Cg) ∧ w'.cell? (adw.add k) = some (.int .i64 xw) ∧ w'.cell? (adm.add k) = some (.int .i64 xm) ∧ w'.cell? (adg.add k) = some (.int .i64 xg)) (by kernel_rfl) ?_ (fun hHeld => ?_)
      · have hBel := hBel0
        exact ⟨(hA.below hBel hA.lt).cell 0, (hA.below hBel hA.lt).cell 1, (hA.below hBel hA.lt).cell 2, (hA.below hBel hA.lt).cell 3, (hL.below hBel hL.lt).cell 0, (hL.below hBel hL.lt).cell 1, (hL.below hBel hL.lt).cell 3, ((hBel.cell (World.block_lt_of_cell? wr _ hxw)).trans hxw), ((hBel.cell (World.block_lt_of_cell? wr _ hxm)).trans hxm), ((hBel.cell (World.block_lt_of_cell? wr _ hxg)).trans hxg)⟩
      refine wpAnyH_take (i := 0) (v := ?tv0) rfl (by kernel_rfl) (by kernel_rfl) (by kernel_rfl) (fun _ _ _ h => h) (Or.inl ⟨by kernel_rfl, ?thy0⟩) (by assumption) ?trest0
      case thy0 => (intro w hSw; (try dsimp only at hSw); go_simp; try (with_reducible rfl))
      try simp only [Act.put]
      refine wpAnyH_take (i := 1) (v := ?tv1) rfl (by kernel_rfl) (by kernel_rfl) (by kernel_rfl) (fun _ _ _ h => h) (Or.inl ⟨by kernel_rfl, ?thy1⟩) (by assumption) ?trest1
      case thy1 => (intro w hSw; (try dsimp only at hSw); go_simp; try (with_reducible rfl))
      try simp only [Act.put]
      refine wpAnyH_take (i := 2) (v := ?tv2) rfl (by kernel_rfl) (by kernel_rfl) (by kernel_rfl) (fun _ _ _ h => h) (Or.inl ⟨by kernel_rfl, ?thy2⟩) (by assumption) ?trest2
      case thy2 => (intro w hSw; (try dsimp only at hSw); go_simp; try (with_reducible rfl))
      try simp only [Act.put]
      refine wpAnyH_take (i := 3) (v := ?tv3) rfl (by kernel_rfl) (by kernel_rfl) (by kernel_rfl) (fun _ _ _ h => h) (Or.inl ⟨by kernel_rfl, ?thy3⟩) (by assumption) ?trest3
      case thy3 => (intro w hSw; (try dsimp only at hSw); go_simp; try (with_reducible rfl))
      try simp only [Act.put]
      refine wpAnyH_take (i := 4) (v := ?tv4) rfl (by kernel_rfl) (by kernel_rfl) (by kernel_rfl) (fun _ _ _ h => h) (Or.inl ⟨by kernel_rfl, ?thy4⟩) (by assumption) ?trest4
      case thy4 => (intro w hSw; (try dsimp only at hSw); go_simp; try (with_reducible rfl))
      try simp only [Act.put]
      refine wpAnyH_take (i := 5) (v := ?tv5) rfl (by kernel_rfl) (by kernel_rfl) (by kernel_rfl) (fun _ _ _ h => h) (Or.inl ⟨by kernel_rfl, ?thy5⟩) (by assumption) ?trest5
      case thy5 => (intro w hSw; (try dsimp only at hSw); go_simp; try (with_reducible rfl))
      try simp only [Act.put]
      refine wpAnyH_take (i := 6) (v := ?tv6) rfl (by kernel_rfl) (by kernel_rfl) (by kernel_rfl) (fun _ _ _ h => h) (Or.inl ⟨by kernel_rfl, ?thy6⟩) (by assumption) ?trest6
      case thy6 => (intro w hSw; (try dsimp only at hSw); go_simp; try (with_reducible rfl))
      try simp only [Act.put]
      refine wpAnyH_take (i := 7) (v := ?tv7) rfl (by kernel_rfl) (by kernel_rfl) (by kernel_rfl) (fun _ _ _ h => h) (Or.inl ⟨by kernel_rfl, ?thy7⟩) (by assumption) ?trest7
      case thy7 => (intro w hSw; (try dsimp only at hSw); go_simp; try (with_reducible rfl))
      try simp only [Act.put]
      refine wpAnyH_take (i := 8) (v := ?tv8) rfl (by kernel_rfl) (by kernel_rfl) (by kernel_rfl) (fun _ _ _ h => h) (Or.inl ⟨by kernel_rfl, ?thy8⟩) (by assumption) ?trest8
      case thy8 => (intro w hSw; (try dsimp only at hSw); go_simp; try (with_reducible rfl))
      try simp only [Act.put]
      refine wpAnyH_take (i := 9) (v := ?tv9) rfl (by kernel_rfl) (by kernel_rfl) (by kernel_rfl) (fun _ _ _ h => h) (Or.inl ⟨by kernel_rfl, ?thy9⟩) (by assumption) ?trest9
      case thy9 => (intro w hSw; (try dsimp only at hSw); go_simp; try (with_reducible rfl))
      try simp only [Act.put]
      refine wpAnyH_take (i := 10) (v := ?tv10) rfl (by kernel_rfl) (by kernel_rfl) (by kernel_rfl) (fun _ _ _ h => h) (Or.inl ⟨by kernel_rfl, ?thy10⟩) (by assumption) ?trest10
      case thy10 => (intro w hSw; (try dsimp only at hSw); go_simp; try (with_reducible rfl))
      try simp only [Act.put]
      refine wpAnyH_take (i := 11) (v := ?tv11) rfl (by kernel_rfl) (by kernel_rfl) (by kernel_rfl) (fun _ _ _ h => h) (Or.inl ⟨by kernel_rfl, ?thy11⟩) (by assumption) ?trest11
      case thy11 => (intro w hSw; (try dsimp only at hSw); go_simp; try (with_reducible rfl))
      try simp only [Act.put]
      refine wpAnyH_take (i := 12) (v := ?tv12) rfl (by kernel_rfl) (by kernel_rfl) (by kernel_rfl) (fun _ _ _ h => h) (Or.inl ⟨by kernel_rfl, ?thy12⟩) (by assumption) ?trest12
      case thy12 => (intro w hSw; (try dsimp only at hSw); go_simp; try (with_reducible rfl))
      try simp only [Act.put]
      refine wpAnyH_take (i := 13) (v := ?tv13) rfl (by kernel_rfl) (by kernel_rfl) (by kernel_rfl) (fun _ _ _ h => h) (Or.inl ⟨by kernel_rfl, ?thy13⟩) (by assumption) ?trest13
      case thy13 => (intro w hSw; (try dsimp only at hSw); go_simp; try (with_reducible rfl))
      try simp only [Act.put]
      refine wpAnyH_take (i := 14) (v := ?tv14) rfl (by kernel_rfl) (by kernel_rfl) (by kernel_rfl) (fun _ _ _ h => h) (Or.inl ⟨by kernel_rfl, ?thy14⟩) (by assumption) ?trest14
      case thy14 => (intro w hSw; (try dsimp only at hSw); go_simp; try (with_reducible rfl))
      try simp only [Act.put]
      refine wpAnyH_take (i := 15) (v := ?tv15) rfl (by kernel_rfl) (by kernel_rfl) (by kernel_rfl) (fun _ _ _ h => h) (Or.inl ⟨by kernel_rfl, ?thy15⟩) (by assumption) ?trest15
      case thy15 => (intro w hSw; (try dsimp only at hSw); go_simp; try (with_reducible rfl))
      try simp only [Act.put]
      refine wpAnyH_take (i := 16) (v := ?tv16) rfl (by kernel_rfl) (by kernel_rfl) (by kernel_rfl) (fun _ _ _ h => h) (Or.inl ⟨by kernel_rfl, ?thy16⟩) (by assumption) ?trest16
      case thy16 => (intro w hSw; (try dsimp only at hSw); go_simp; try (with_reducible rfl))
      try simp only [Act.put]
      refine wpAnyH_take (i := 17) (v := ?tv17) rfl (by kernel_rfl) (by kernel_rfl) (by kernel_rfl) (fun _ _ _ h => h) (Or.inl ⟨by kernel_rfl, ?thy17⟩) (by assumption) ?trest17
      case thy17 => (intro w hSw; (try dsimp only at hSw); go_simp; try (with_reducible rfl))
      try simp only [Act.put]
      refine wpAnyH_until (fun l a w => ∃ (b18 b19 b20 b21 b22 b23 : Bool) (x61 x42 x62 x63 x10 x11 : Value) (n10 n11 : Nat), l = #[true, true, true, true, true, true, true, true, true, true, true, true, true, true, true, true, true, true, b18, b19, b20, b21, b22, b23, false, false] ∧ a = ⟨((.agg #[.int .i64 lr, .int .i64 mu, .int .i64 wd, .bool nest]) :: (.int .i64 kf) :: (.agg #[.slice (some adw) n Cw, .slice (some adm) n Cm, vV, .slice (some adg) n Cg]) :: (.pointer (some ⟨g, 0, none⟩)) :: undef :: (.pointer (some ⟨g + 1, 0, none⟩)) :: (.pointer (some ⟨g + 1 + 1, 0, none⟩)) :: u7 :: (.pointer (some ⟨X, 0, none⟩)) :: (.int .i64 k) :: x10 :: x11 :: (.agg #[.int .i64 lr, .int .i64 mu, .int .i64 wd, .bool nest]) :: (.int .i64 kf) :: (.bool true) :: (.bool false) :: undef :: (.pointer (some ⟨g + 1, 1, none⟩)) :: (.slice (some adm) n Cm) :: (.int .i64 n) :: (.pointer (some ⟨g + 1, 0, none⟩)) :: (.slice (some adw) n Cw) :: (.int .i64 n) :: (.bool false) :: (.bool false) :: (.pointer (some ⟨g + 1, 3, none⟩)) :: (.slice (some adg) n Cg) :: (.int .i64 n) :: (.pointer (some ⟨g + 1, 0, none⟩)) :: (.slice (some adw) n Cw) :: (.int .i64 n) :: (.bool false) :: (.bool false) :: undef :: (.agg #[.slice none 0 0, .slice none 0 0, .slice none 0 0, .slice none 0 0]) :: (.int .i64 k) :: (.pointer (some ⟨g + 1, 0, none⟩)) :: (.slice (some adw) n Cw) :: (.int .i64 n) :: (.bool true) :: u40 :: u41 :: x42 :: (.agg #[.int .i64 lr, .int .i64 mu, .int .i64 wd, .bool nest]) :: (.int .i64 kf) :: (.pointer (some ⟨g + 1, 0, none⟩)) :: (.slice (some adw) n Cw) :: (.int .i64 k) :: (.pointer (some (adw.add k))) :: (.int .i64 xw) :: (.pointer (some ⟨g + 1, 1, none⟩)) :: (.slice (some adm) n Cm) :: (.int .i64 k) :: (.pointer (some (adm.add k))) :: (.int .i64 xm) :: (.pointer (some ⟨g + 1, 3, none⟩)) :: (.slice (some adg) n Cg) :: (.int .i64 k) :: (.pointer (some (adg.add k))) :: (.int .i64 xg) :: (.agg #[.int .i64 xw, .int .i64 xm, .int .i64 xg]) :: x61 :: x62 :: x63 :: u64 :: u65 :: u66 :: u67 :: u68 :: u69 :: u70 :: u71 :: u72 :: u73 :: u74 :: u75 :: u76 :: u77 :: u78 :: u79 :: u80 :: u81 :: u82 :: u83 :: u84 :: u85 :: u86 :: undef :: []).toArray, []⟩ ∧ (b18 = true → x61 = .tuple #[num17 p.1 p.2, num17 q.1 q.2]) ∧ (b19 = true → x42 = .tuple #[num17 p.1 p.2, num17 q.1 q.2]) ∧ (b20 = true → x62 = num17 p.1 p.2) ∧ (b21 = true → x63 = num17 q.1 q.2) ∧ Got 59 #[.int .i64 0, .bool false] wr.heap.size w b22 x10 n10 ∧ Got 59 #[.int .i64 0, .bool false] wr.heap.size w b23 x11 n11 ∧ Twain b22 b23 n10 n11 ∧ Below wr.heap.size wr w) (fun l => l.getD 18 false && l.getD 19 false && l.getD 20 false && l.getD 22 false && l.getD 23 false) (hord_of (by kernel_rfl)) ?hsz ?hT ?hgo ?hstep _ _ _ _ ⟨false, false, false, false, false, false, u61, u42, u62, u63, u10, u11, 0, 0, by kernel_rfl, by kernel_rfl, (fun h => nomatch h), (fun h => nomatch h), (fun h => nomatch h), (fun h => nomatch h), (fun h => nomatch h), (fun h => nomatch h), (fun h => nomatch h), hBel0⟩ (Nat.le_of_ble_eq_true (by kernel_rfl))
      case hsz =>
        rintro l a w ⟨b18, b19, b20, b21, b22, b23, x61, x42, x62, x63, x10, x11, n10, n11, rfl, rfl, h61, h42, h62, h63, h10, h11, t10_11, hBel⟩
        rfl
      case hT =>
        intro l a w _ h
        show (l.getD 18 false && l.getD 19 false && l.getD 20 false && l.getD 22 false && l.getD 23 false) = true
        rw [h 18 (by simp), h 19 (by simp), h 20 (by simp), h 22 (by simp), h 23 (by simp)]
        rfl
      case hstep =>
        rintro l a w i o ⟨b18, b19, b20, b21, b22, b23, x61, x42, x62, x63, x10, x11, n10, n11, rfl, rfl, h61, h42, h62, h63, h10, h11, t10_11, hBel⟩ hTl ho hl hd K hK
        rcases i with _ | _ | _ | _ | _ | _ | _ | _ | _ | _ | _ | _ | _ | _ | _ | _ | _ | _ | _ | _ | _ | _ | _ | _ | _ | _ | i
        · exact nomatch (show true = false from hl)
        · exact nomatch (show true = false from hl)
        · exact nomatch (show true = false from hl)
        · exact nomatch (show true = false from hl)
        · exact nomatch (show true = false from hl)
        · exact nomatch (show true = false from hl)
        · exact nomatch (show true = false from hl)
        · exact nomatch (show true = false from hl)
        · exact nomatch (show true = false from hl)
        · exact nomatch (show true = false from hl)
        · exact nomatch (show true = false from hl)
        · exact nomatch (show true = false from hl)
        · exact nomatch (show true = false from hl)
        · exact nomatch (show true = false from hl)
        · exact nomatch (show true = false from hl)
        · exact nomatch (show true = false from hl)
        · exact nomatch (show true = false from hl)
        · exact nomatch (show true = false from hl)
        · obtain rfl : b18 = false := hl
          simp only [List.getElem?_toArray, List.getElem?_cons_succ, List.getElem?_cons_zero, Option.some.injEq] at ho
          subst ho
          go_simp
          refine (hSk _).mono ?_
          rintro _ w1 ⟨rfl, hB1⟩
          go_wp2_with fail
          have hBel := hBel.trans (hB1.mono hBel.size)
          exact hK.out _ _ (⟨(hA.below hBel hA.lt).cell 0, (hA.below hBel hA.lt).cell 1, (hA.below hBel hA.lt).cell 2, (hA.below hBel hA.lt).cell 3, (hL.below hBel hL.lt).cell 0, (hL.below hBel hL.lt).cell 1, (hL.below hBel hL.lt).cell 3, ((hBel.cell (World.block_lt_of_cell? wr _ hxw)).trans hxw), ((hBel.cell (World.block_lt_of_cell? wr _ hxm)).trans hxm), ((hBel.cell (World.block_lt_of_cell? wr _ hxg)).trans hxg)⟩) ⟨true, b19, b20, b21, b22, b23, (.tuple #[num17 p.1 p.2, num17 q.1 q.2]), x42, x62, x63, x10, x11, n10, n11, by kernel_rfl, by kernel_rfl, (fun _ => rfl), h42, h62, h63, h10.below hB1, h11.below hB1, t10_11, hBel⟩
        · obtain rfl : b19 = false := hl
          simp only [List.getElem?_toArray, List.getElem?_cons_succ, List.getElem?_cons_zero, Option.some.injEq] at ho
          subst ho
          obtain rfl : b18 = true := hd ⟨18, .data⟩ (by simp) rfl
          obtain rfl := h61 rfl
          go_simp
          exact hK.out _ _ (⟨(hA.below hBel hA.lt).cell 0, (hA.below hBel hA.lt).cell 1, (hA.below hBel hA.lt).cell 2, (hA.below hBel hA.lt).cell 3, (hL.below hBel hL.lt).cell 0, (hL.below hBel hL.lt).cell 1, (hL.below hBel hL.lt).cell 3, ((hBel.cell (World.block_lt_of_cell? wr _ hxw)).trans hxw), ((hBel.cell (World.block_lt_of_cell? wr _ hxm)).trans hxm), ((hBel.cell (World.block_lt_of_cell? wr _ hxg)).trans hxg)⟩) ⟨true, true, b20, b21, b22, b23, (.tuple #[num17 p.1 p.2, num17 q.1 q.2]), (.tuple #[num17 p.1 p.2, num17 q.1 q.2]), x62, x63, x10, x11, n10, n11, by kernel_rfl, by kernel_rfl, (fun _ => rfl), (fun _ => rfl), h62, h63, h10, h11, t10_11, hBel⟩
        · obtain rfl : b20 = false := hl
          simp only [List.getElem?_toArray, List.getElem?_cons_succ, List.getElem?_cons_zero, Option.some.injEq] at ho
          subst ho
          obtain rfl : b19 = true := hd ⟨19, .data⟩ (by simp) rfl
          obtain rfl := h42 rfl
          go_simp
          exact hK.out _ _ (⟨(hA.below hBel hA.lt).cell 0, (hA.below hBel hA.lt).cell 1, (hA.below hBel hA.lt).cell 2, (hA.below hBel hA.lt).cell 3, (hL.below hBel hL.lt).cell 0, (hL.below hBel hL.lt).cell 1, (hL.below hBel hL.lt).cell 3, ((hBel.cell (World.block_lt_of_cell? wr _ hxw)).trans hxw), ((hBel.cell (World.block_lt_of_cell? wr _ hxm)).trans hxm), ((hBel.cell (World.block_lt_of_cell? wr _ hxg)).trans hxg)⟩) ⟨b18, true, true, b21, b22, b23, x61, (.tuple #[num17 p.1 p.2, num17 q.1 q.2]), (num17 p.1 p.2), x63, x10, x11, n10, n11, by kernel_rfl, by kernel_rfl, h61, (fun _ => rfl), (fun _ => rfl), h63, h10, h11, t10_11, hBel⟩
        · obtain rfl : b21 = false := hl
          simp only [List.getElem?_toArray, List.getElem?_cons_succ, List.getElem?_cons_zero, Option.some.injEq] at ho
          subst ho
          obtain rfl : b19 = true := hd ⟨19, .data⟩ (by simp) rfl
          obtain rfl := h42 rfl
          go_simp
          exact hK.out _ _ (⟨(hA.below hBel hA.lt).cell 0, (hA.below hBel hA.lt).cell 1, (hA.below hBel hA.lt).cell 2, (hA.below hBel hA.lt).cell 3, (hL.below hBel hL.lt).cell 0, (hL.below hBel hL.lt).cell 1, (hL.below hBel hL.lt).cell 3, ((hBel.cell (World.block_lt_of_cell? wr _ hxw)).trans hxw), ((hBel.cell (World.block_lt_of_cell? wr _ hxm)).trans hxm), ((hBel.cell (World.block_lt_of_cell? wr _ hxg)).trans hxg)⟩) ⟨b18, true, b20, true, b22, b23, x61, (.tuple #[num17 p.1 p.2, num17 q.1 q.2]), x62, (num17 q.1 q.2), x10, x11, n10, n11, by kernel_rfl, by kernel_rfl, h61, (fun _ => rfl), h62, (fun _ => rfl), h10, h11, t10_11, hBel⟩
        · obtain rfl : b22 = false := hl
          simp only [List.getElem?_toArray, List.getElem?_cons_succ, List.getElem?_cons_zero, Option.some.injEq] at ho
          subst ho
          go_simp
          have hSz := hBel.size
          have hBel := hBel.alloc hBel.size (.cells #[.int .i64 0, .bool false] 59)
          exact hK.out _ _ (⟨(hA.below hBel hA.lt).cell 0, (hA.below hBel hA.lt).cell 1, (hA.below hBel hA.lt).cell 2, (hA.below hBel hA.lt).cell 3, (hL.below hBel hL.lt).cell 0, (hL.below hBel hL.lt).cell 1, (hL.below hBel hL.lt).cell 3, ((hBel.cell (World.block_lt_of_cell? wr _ hxw)).trans hxw), ((hBel.cell (World.block_lt_of_cell? wr _ hxm)).trans hxm), ((hBel.cell (World.block_lt_of_cell? wr _ hxg)).trans hxg)⟩) ⟨b18, b19, b20, b21, true, b23, x61, x42, x62, x63, (.pointer (some ⟨w.heap.size, 0, none⟩)), x11, w.heap.size, n11, by kernel_rfl, by kernel_rfl, h61, h42, h62, h63, Got.new hSz, h11.alloc _, h11.twain', hBel⟩
        · obtain rfl : b23 = false := hl
          simp only [List.getElem?_toArray, List.getElem?_cons_succ, List.getElem?_cons_zero, Option.some.injEq] at ho
          subst ho
          go_simp
          have hSz := hBel.size
          have hBel := hBel.alloc hBel.size (.cells #[.int .i64 0, .bool false] 59)
          exact hK.out _ _ (⟨(hA.below hBel hA.lt).cell 0, (hA.below hBel hA.lt).cell 1, (hA.below hBel hA.lt).cell 2, (hA.below hBel hA.lt).cell 3, (hL.below hBel hL.lt).cell 0, (hL.below hBel hL.lt).cell 1, (hL.below hBel hL.lt).cell 3, ((hBel.cell (World.block_lt_of_cell? wr _ hxw)).trans hxw), ((hBel.cell (World.block_lt_of_cell? wr _ hxm)).trans hxm), ((hBel.cell (World.block_lt_of_cell? wr _ hxg)).trans hxg)⟩) ⟨b18, b19, b20, b21, b22, true, x61, x42, x62, x63, x10, (.pointer (some ⟨w.heap.size, 0, none⟩)), n10, w.heap.size, by kernel_rfl, by kernel_rfl, h61, h42, h62, h63, h10.alloc _, Got.new hSz, h10.twain, hBel⟩
        · exfalso
          simp only [List.getElem?_toArray, List.getElem?_cons_succ, List.getElem?_cons_zero, Option.some.injEq] at ho
          subst ho
          obtain rfl : b18 = true := hd ⟨18, .phase⟩ (by simp) rfl
          obtain rfl : b19 = true := hd ⟨19, .phase⟩ (by simp) rfl
          obtain rfl : b20 = true := hd ⟨20, .phase⟩ (by simp) rfl
          obtain rfl : b22 = true := hd ⟨22, .phase⟩ (by simp) rfl
          obtain rfl : b23 = true := hd ⟨23, .phase⟩ (by simp) rfl
          exact nomatch (show true = false from hTl)
        · exfalso
          simp only [List.getElem?_toArray, List.getElem?_cons_succ, List.getElem?_cons_zero, Option.some.injEq] at ho
          subst ho
          exact nomatch (show false = true from hd ⟨24, .phase⟩ (by simp) rfl)
        · exact nomatch (show none = some o from ho)
      case hgo =>
        rintro fuel l a w ⟨b18, b19, b20, b21, b22, b23, x61, x42, x62, x63, x10, x11, n10, n11, rfl, rfl, h61, h42, h62, h63, h10, h11, t10_11, hBel⟩ hTl hc
        change (b18 && b19 && b20 && b22 && b23) = true at hTl
        simp only [Bool.and_eq_true] at hTl
        obtain ⟨⟨⟨⟨rfl, rfl⟩, rfl⟩, rfl⟩, rfl⟩ := hTl
        obtain rfl := h61 rfl
        obtain rfl := h42 rfl
        obtain rfl := h62 rfl
        obtain ⟨rfl, m10, k10⟩ := h10 rfl
        obtain ⟨rfl, m11, k11⟩ := h11 rfl
        have t10_11 := t10_11 rfl rfl
        refine wpAnyH_merge 2 #[true, true, true, true, true, true, true, true, true, true, true, true, true, true, true, true, true, true, true, true, true, true, true, true, false, false] ⟨((.agg #[.int .i64 lr, .int .i64 mu, .int .i64 wd, .bool nest]) :: (.int .i64 kf) :: (.agg #[.slice (some adw) n Cw, .slice (some adm) n Cm, vV, .slice (some adg) n Cg]) :: (.pointer (some ⟨g, 0, none⟩)) :: undef :: (.pointer (some ⟨g + 1, 0, none⟩)) :: (.pointer (some ⟨g + 1 + 1, 0, none⟩)) :: u7 :: (.pointer (some ⟨X, 0, none⟩)) :: (.int .i64 k) :: (.pointer (some ⟨n10, 0, none⟩)) :: (.pointer (some ⟨n11, 0, none⟩)) :: (.agg #[.int .i64 lr, .int .i64 mu, .int .i64 wd, .bool nest]) :: (.int .i64 kf) :: (.bool true) :: (.bool false) :: undef :: (.pointer (some ⟨g + 1, 1, none⟩)) :: (.slice (some adm) n Cm) :: (.int .i64 n) :: (.pointer (some ⟨g + 1, 0, none⟩)) :: (.slice (some adw) n Cw) :: (.int .i64 n) :: (.bool false) :: (.bool false) :: (.pointer (some ⟨g + 1, 3, none⟩)) :: (.slice (some adg) n Cg) :: (.int .i64 n) :: (.pointer (some ⟨g + 1, 0, none⟩)) :: (.slice (some adw) n Cw) :: (.int .i64 n) :: (.bool false) :: (.bool false) :: undef :: (.agg #[.slice none 0 0, .slice none 0 0, .slice none 0 0, .slice none 0 0]) :: (.int .i64 k) :: (.pointer (some ⟨g + 1, 0, none⟩)) :: (.slice (some adw) n Cw) :: (.int .i64 n) :: (.bool true) :: u40 :: u41 :: (.tuple #[num17 p.1 p.2, num17 q.1 q.2]) :: (.agg #[.int .i64 lr, .int .i64 mu, .int .i64 wd, .bool nest]) :: (.int .i64 kf) :: (.pointer (some ⟨g + 1, 0, none⟩)) :: (.slice (some adw) n Cw) :: (.int .i64 k) :: (.pointer (some (adw.add k))) :: (.int .i64 xw) :: (.pointer (some ⟨g + 1, 1, none⟩)) :: (.slice (some adm) n Cm) :: (.int .i64 k) :: (.pointer (some (adm.add k))) :: (.int .i64 xm) :: (.pointer (some ⟨g + 1, 3, none⟩)) :: (.slice (some adg) n Cg) :: (.int .i64 k) :: (.pointer (some (adg.add k))) :: (.int .i64 xg) :: (.agg #[.int .i64 xw, .int .i64 xm, .int .i64 xg]) :: (.tuple #[num17 p.1 p.2, num17 q.1 q.2]) :: (num17 p.1 p.2) :: (num17 q.1 q.2) :: u64 :: u65 :: u66 :: u67 :: u68 :: u69 :: u70 :: u71 :: u72 :: u73 :: u74 :: u75 :: u76 :: u77 :: u78 :: u79 :: u80 :: u81 :: u82 :: u83 :: u84 :: u85 :: u86 :: undef :: []).toArray, []⟩ (fun fuel => ?_) (fun hmain => ?_)
        rotate_left
        · rcases b21 with _ | _
          · obtain ⟨fuel, rfl⟩ : ∃ m, fuel = m + 3 := ⟨fuel - 3, by have : 3 ≤ fuel := hc; omega⟩
            refine wpAnyH_take (i := 21) (v := num17 q.1 q.2) rfl (by kernel_rfl) (by kernel_rfl) (by kernel_rfl) (fun _ _ _ h => h) (Or.inl ⟨by kernel_rfl, ?_⟩) (⟨(hA.below hBel hA.lt).cell 0, (hA.below hBel hA.lt).cell 1, (hA.below hBel hA.lt).cell 2, (hA.below hBel hA.lt).cell 3, (hL.below hBel hL.lt).cell 0, (hL.below hBel hL.lt).cell 1, (hL.below hBel hL.lt).cell 3, ((hBel.cell (World.block_lt_of_cell? wr _ hxw)).trans hxw), ((hBel.cell (World.block_lt_of_cell? wr _ hxm)).trans hxm), ((hBel.cell (World.block_lt_of_cell? wr _ hxg)).trans hxg)⟩) ?_
            · intro w hSw
              go_simp
              try with_reducible rfl
            · exact hmain fuel
          · obtain rfl := h63 rfl
            obtain ⟨fuel, rfl⟩ : ∃ m, fuel = m + 2 := ⟨fuel - 2, by have : 2 ≤ fuel := hc; omega⟩
            exact hmain fuel
        clear hc
        have u0 := k10.cell 0
        have u1 := k10.cell 1
        have uf0 := k10.frozen 0
        have uf1 := k10.frozen 1
        refine wpAnyH_ready (rs := [24]) (by kernel_rfl) (by simp) ?_
        refine AllReadyH.cons rfl (fun K hK => ?_) AllReadyH.nil
        go_simp
        replace hBel := (hBel.setCell (p := ⟨n10, 0, none⟩) m10 (.int .i64 p.1)).setCell (p := ⟨n10, 1, none⟩) m10 (.bool p.2)
        refine hK.out _ _ (⟨(hA.below hBel hA.lt).cell 0, (hA.below hBel hA.lt).cell 1, (hA.below hBel hA.lt).cell 2, (hA.below hBel hA.lt).cell 3, (hL.below hBel hL.lt).cell 0, (hL.below hBel hL.lt).cell 1, (hL.below hBel hL.lt).cell 3, ((hBel.cell (World.block_lt_of_cell? wr _ hxw)).trans hxw), ((hBel.cell (World.block_lt_of_cell? wr _ hxm)).trans hxm), ((hBel.cell (World.block_lt_of_cell? wr _ hxg)).trans hxg)⟩) (fun hHeld => ?_)
        clear hK K
        replace k10 := k10.st2 (u := .int .i64 p.1) (v := .bool p.2)
        replace k11 := k11.far2n (n' := n10) (u := .int .i64 p.1) (v := .bool p.2) t10_11.symm
        clear u0 u1 uf0 uf1
        try simp only [Act.put]
        have u0 := k11.cell 0
        have u1 := k11.cell 1
        have uf0 := k11.frozen 0
        have uf1 := k11.frozen 1
        refine wpAnyH_ready (rs := [25]) (by kernel_rfl) (by simp) ?_
        refine AllReadyH.cons rfl (fun K hK => ?_) AllReadyH.nil
        go_simp
        replace hBel := (hBel.setCell (p := ⟨n11, 0, none⟩) m11 (.int .i64 q.1)).setCell (p := ⟨n11, 1, none⟩) m11 (.bool q.2)
        refine hK.out _ _ (⟨(hA.below hBel hA.lt).cell 0, (hA.below hBel hA.lt).cell 1, (hA.below hBel hA.lt).cell 2, (hA.below hBel hA.lt).cell 3, (hL.below hBel hL.lt).cell 0, (hL.below hBel hL.lt).cell 1, (hL.below hBel hL.lt).cell 3, ((hBel.cell (World.block_lt_of_cell? wr _ hxw)).trans hxw), ((hBel.cell (World.block_lt_of_cell? wr _ hxm)).trans hxm), ((hBel.cell (World.block_lt_of_cell? wr _ hxg)).trans hxg)⟩) (fun hHeld => ?_)
        clear hK K
        replace k11 := k11.st2 (u := .int .i64 q.1) (v := .bool q.2)
        replace k10 := k10.far2n (n' := n11) (u := .int .i64 q.1) (v := .bool q.2) t10_11
        clear u0 u1 uf0 uf1
        try simp only [Act.put]
        refine wpAnyH_done (by kernel_rfl) ?_ _
        refine NoPanic.normal ?_
        obtain ⟨w2, hw_⟩ : ∃ W, W = ((((w.setCell ⟨n10, 0, none⟩ (.int .i64 p.1)).setCell ⟨n10, 1, none⟩ (.bool p.2)).setCell ⟨n11, 0, none⟩ (.int .i64 q.1)).setCell ⟨n11, 1, none⟩ (.bool q.2)) := ⟨_, rfl⟩
        rw [← hw_] at hBel k10 k11 ⊢
        have o10 : X < n10 := by have := hO.box.lt; omega
        have o11 : X < n11 := by have := hO.box.lt; omega
        replace hO := hO.below hBel
        replace hA := hA.below hBel hA.lt
        replace hL := hL.below hBel hL.lt
        replace hR := hR.below hBel hR.lt
        replace hB := hB.trans (hBel.mono hB.size)
        clear hw_ hHeld hBel hBel0 m10 m11 t10_11 hSk hxw hxm hxg m0 m1 m2 m3 l0 l1 l2 l3
        obtain ⟨pn, pb⟩ := p
        obtain ⟨qn, qb⟩ := q
        dsimp only at k10 k11
        have e10 := k10.cell 0
        have e10b := k10.cell 1
        have e11 := k11.cell 0
        have e11b := k11.cell 1
        rcases qb with _ | _
        · have hpe : plE lr mu wd nest kf W M G k ≠ 0 := by
            intro e
            have hb := HK.out.2.2
            rw [decide_eq_true e] at hb
            cases hb
          have hE2 := Lib.hid (errTo_more (lr := lr) (mu := mu) (wd := wd) (nest := nest) (f := kf) (W := W) (M := M) (G := G) (k := k + 1) (fun e => hpe (joinE_iff.1 (show joinE _ _ = 0 from e)).2) n (by omega))
          clear hpe HK HF
          obtain ⟨r0, r1, r2, r3⟩ := hR.cells4
          have z0 := hR.frozen 0
          have z1 := hR.frozen 1
          have z2 := hR.frozen 2
          have z3 := hR.frozen 3
          have END := Lib.hid ((((hB.setCell (p := ⟨g + 1 + 1, 0, none⟩) (show wS.heap.size ≤ g + 1 + 1 by omega) (.slice none 0 0)).setCell (p := ⟨g + 1 + 1, 1, none⟩) (show wS.heap.size ≤ g + 1 + 1 by omega) (.slice none 0 0)).setCell (p := ⟨g + 1 + 1, 2, none⟩) (show wS.heap.size ≤ g + 1 + 1 by omega) (.slice none 0 0)).setCell (p := ⟨g + 1 + 1, 3, none⟩) (show wS.heap.size ≤ g + 1 + 1 by omega) (.slice none 0 0))
          go_wp2
          exact bodyPost_ret (v := .tuple #[.agg #[.slice none 0 0, .slice none 0 0, .slice none 0 0, .slice none 0 0], .int .i64 2]) (by simp [results, Try.results11, go_sem, r0, r1, r2, r3]) rfl ⟨fun _ => rfl, fun e => absurd e hE2.out, END.out⟩
        · rcases pb with _ | _
          · have hpe : plE lr mu wd nest kf W M G k ≠ 0 := by
              intro e
              have hb := HK.out.2.2
              rw [decide_eq_true e] at hb
              cases hb
            have hE2 := Lib.hid (errTo_more (lr := lr) (mu := mu) (wd := wd) (nest := nest) (f := kf) (W := W) (M := M) (G := G) (k := k + 1) (fun e => hpe (joinE_iff.1 (show joinE _ _ = 0 from e)).2) n (by omega))
            clear hpe HK HF
            obtain ⟨r0, r1, r2, r3⟩ := hR.cells4
            have z0 := hR.frozen 0
            have z1 := hR.frozen 1
            have z2 := hR.frozen 2
            have z3 := hR.frozen 3
            have END := Lib.hid ((((hB.setCell (p := ⟨g + 1 + 1, 0, none⟩) (show wS.heap.size ≤ g + 1 + 1 by omega) (.slice none 0 0)).setCell (p := ⟨g + 1 + 1, 1, none⟩) (show wS.heap.size ≤ g + 1 + 1 by omega) (.slice none 0 0)).setCell (p := ⟨g + 1 + 1, 2, none⟩) (show wS.heap.size ≤ g + 1 + 1 by omega) (.slice none 0 0)).setCell (p := ⟨g + 1 + 1, 3, none⟩) (show wS.heap.size ≤ g + 1 + 1 by omega) (.slice none 0 0))
            go_wp2
            exact bodyPost_ret (v := .tuple #[.agg #[.slice none 0 0, .slice none 0 0, .slice none 0 0, .slice none 0 0], .int .i64 2]) (by simp [results, Try.results11, go_sem, r0, r1, r2, r3]) rfl ⟨fun _ => rfl, fun e => absurd e hE2.out, END.out⟩
          · have hpl : pn = plV mu wd kf W M G k := HK.out.1
            have hql : qn = plW lr mu wd nest kf W M G k := HK.out.2.1
            have hpe : plE lr mu wd nest kf W M G k = 0 := of_decide_eq_true (HK.out.2.2.symm)
            have HX := Lib.hid (And.intro hpl (And.intro hql hpe))
            clear hpl hql hpe HK HF
            obtain ⟨LW, hLW⟩ : ∃ l, l = (List.range k).map (plW lr mu wd nest kf W M G) := ⟨_, rfl⟩
            obtain ⟨LV, hLV⟩ : ∃ l, l = (List.range k).map (plV mu wd kf W M G) := ⟨_, rfl⟩
            rw [← hLW, ← hLV] at hO
            have LEN := Lib.hid (show LW.length = k ∧ LV.length = k from ⟨by rw [hLW]; simp, by rw [hLV]; simp⟩)
            have HL := Lib.hid (And.intro hLW hLV)
            clear hLW hLV
            have hOd := hO.alloc (.cells #[.int .i64 qn] 2)
            obtain ⟨s0, s1, s2, s3⟩ := hOd.box.cells4
            obtain ⟨o0, o1, o2, o3⟩ := hO.box.cells4
            have hown := hOd.own 0 (by omega)
            have hTT := own_type hown hOd.box rows_ne
            have e_ : (rows4f LW LV [] []) 0 = LW := rfl
            rw [e_, LEN.out.1] at hown
            have HE := Lib.hid e_
            clear e_
            go_upto_region 13 with (at_builtin; refine wpList_append_any _ rfl (.tmp 74) (.tmp 77) _ rfl wS.heap.size 2 i0 _ 1 8 Try.underlying24 hi hz0 hz1 hz2 rfl (by omega) _ _ _ rfl hown (w2.heap.size + 1) (some ⟨w2.heap.size, 0, none⟩) 1 1 (is [qn]) rfl (by exact Reads.fresh w2 _ _ 1 rfl) (is_one _) (by unfold maxLen; omega) (by omega) (by simp; exact Nat.le_succ_of_le hB.size) ?_; intro v' w3 hown' hgrow hat; obtain ⟨A', c', rfl, _⟩ := own_form hown'; have hbx := hOd.box.grown hgrow (fun e => hTT e.symm); obtain ⟨p0, p1, p2, p3⟩ := hbx.cells4; have z := hbx.frozen 0)
            have hO1 := hOd.push rows_ne (c := 0) (by omega) (x := qn) (by rw [HE.out, LEN.out.1]; exact hown') hgrow (by first | exact hat.imp Eq.symm id | exact hat.imp (fun e => e.symm) id)
            have hB1 := ((hB.alloc hB.size (.cells #[.int .i64 qn] 2)).grown hgrow (by simp; exact Nat.le_succ_of_le hB.size) (fun j e => (hown.lt j e).1)).setCell (p := ⟨X, 0, none⟩) (show wS.heap.size ≤ X by omega) (.slice A' (k + 1) c')
            have hA1 := ((hA.alloc (.cells #[.int .i64 qn] 2)).grown hgrow (fun e => own_type hown (hA.alloc _) (by decide) e.symm)).far (p := ⟨X, 0, none⟩) (show g ≠ X by omega) (.slice A' (k + 1) c')
            have hL1 := ((hL.alloc (.cells #[.int .i64 qn] 2)).grown hgrow (fun e => own_type hown (hL.alloc _) rows_ne e.symm)).far (p := ⟨X, 0, none⟩) (show g + 1 ≠ X by omega) (.slice A' (k + 1) c')
            have hR1 := ((hR.alloc (.cells #[.int .i64 qn] 2)).grown hgrow (fun e => own_type hown (hR.alloc _) rows_ne e.symm)).far (p := ⟨X, 0, none⟩) (show g + 1 + 1 ≠ X by omega) (.slice A' (k + 1) c')
            have k101 := ((k10.alloc (.cells #[.int .i64 qn] 2)).grown hgrow (fun e => own_type hown (k10.alloc _) (by decide) e.symm)).far (p := ⟨X, 0, none⟩) (show n10 ≠ X by omega) (.slice A' (k + 1) c')
            have k111 := ((k11.alloc (.cells #[.int .i64 qn] 2)).grown hgrow (fun e => own_type hown (k11.alloc _) (by decide) e.symm)).far (p := ⟨X, 0, none⟩) (show n11 ≠ X by omega) (.slice A' (k + 1) c')
            obtain ⟨w4, hw_⟩ : ∃ W, W = w3.setCell ⟨X, 0, none⟩ (.slice A' (k + 1) c') := ⟨_, rfl⟩
            rw [← hw_] at hO1 hB1 hA1 hL1 hR1 k101 k111 ⊢
            clear hw_ hown' hgrow hat hbx p0 p1 p2 p3 z hOd s0 s1 s2 s3 o0 o1 o2 o3 hown hTT hO hB hA hL hR k10 k11 HE e10 e10b e11 e11b
            have hO := hO1
            have hB := hB1
            have hA := hA1
            have hL := hL1
            have hR := hR1
            clear hO1 hB1 hA1 hL1 hR1 k111
            have e10 := k101.cell 0
            have hOd := hO.alloc (.cells #[.int .i64 pn] 2)
            obtain ⟨s0, s1, s2, s3⟩ := hOd.box.cells4
            obtain ⟨o0, o1, o2, o3⟩ := hO.box.cells4
            have hown := hOd.own 1 (by omega)
            have hTT := own_type hown hOd.box rows_ne
            have e_ : (upd (rows4f LW LV [] []) 0 (rows4f LW LV [] [] 0 ++ [qn])) 1 = LV := rfl
            rw [e_, LEN.out.2] at hown
            have HE := Lib.hid e_
            clear e_
            go_wp2_with (at_builtin; refine wpList_append_any _ rfl (.tmp 81) (.tmp 84) _ rfl wS.heap.size 2 i0 _ 1 8 Try.underlying24 hi hz0 hz1 hz2 rfl (by omega) _ _ _ rfl hown (w4.heap.size + 1) (some ⟨w4.heap.size, 0, none⟩) 1 1 (is [pn]) rfl (by exact Reads.fresh w4 _ _ 1 rfl) (is_one _) (by unfold maxLen; omega) (by omega) (by simp; exact Nat.le_succ_of_le hB.size) ?_; intro v' w3 hown' hgrow hat; obtain ⟨A', c', rfl, _⟩ := own_form hown'; have hbx := hOd.box.grown hgrow (fun e => hTT e.symm); obtain ⟨p0, p1, p2, p3⟩ := hbx.cells4; have z := hbx.frozen 1)
            have hO1 := hOd.push rows_ne (c := 1) (by omega) (x := pn) (by rw [HE.out, LEN.out.2]; exact hown') hgrow (by first | exact hat.imp Eq.symm id | exact hat.imp (fun e => e.symm) id)
            have hB1 := ((hB.alloc hB.size (.cells #[.int .i64 pn] 2)).grown hgrow (by simp; exact Nat.le_succ_of_le hB.size) (fun j e => (hown.lt j e).1)).setCell (p := ⟨X, 1, none⟩) (show wS.heap.size ≤ X by omega) (.slice A' (k + 1) c')
            have hA1 := ((hA.alloc (.cells #[.int .i64 pn] 2)).grown hgrow (fun e => own_type hown (hA.alloc _) (by decide) e.symm)).far (p := ⟨X, 1, none⟩) (show g ≠ X by omega) (.slice A' (k + 1) c')
            have hL1 := ((hL.alloc (.cells #[.int .i64 pn] 2)).grown hgrow (fun e => own_type hown (hL.alloc _) rows_ne e.symm)).far (p := ⟨X, 1, none⟩) (show g + 1 ≠ X by omega) (.slice A' (k + 1) c')
            have hR1 := ((hR.alloc (.cells #[.int .i64 pn] 2)).grown hgrow (fun e => own_type hown (hR.alloc _) rows_ne e.symm)).far (p := ⟨X, 1, none⟩) (show g + 1 + 1 ≠ X by omega) (.slice A' (k + 1) c')
            go_wp2
            refine ⟨⟨k + 1, _, by go_num, by omega, Lib.hid (show joinE _ _ = 0 from joinE_iff.2 ⟨hE.out, HX.out.2.2⟩), hO1.congr ?_, hA1, hL1, hR1, hB1⟩, by simp [intOf]; omega⟩
            have f0 : LW ++ [qn] = (List.range (k + 1)).map (plW lr mu wd nest kf W M G) := by rw [HL.out.1, HX.out.2.1, List.range_succ, List.map_append]; rfl
            have f1 : LV ++ [pn] = (List.range (k + 1)).map (plV mu wd kf W M G) := by rw [HL.out.2, HX.out.1, List.range_succ, List.map_append]; rfl
            refine ⟨?_, ?_, ?_, ?_⟩ <;> first | rfl | exact f0 | exact f1
        
    · obtain rfl : k = n := by omega
      obtain ⟨LW, hLW⟩ : ∃ l, l = (List.range k).map (plW lr mu wd nest kf W M G) := ⟨_, rfl⟩
      obtain ⟨LV, hLV⟩ : ∃ l, l = (List.range k).map (plV mu wd kf W M G) := ⟨_, rfl⟩
      rw [← hLW, ← hLV] at hO
      have lenW : LW.length = k := by rw [hLW]; simp
      have lenV : LV.length = k := by rw [hLV]; simp
      have HL := Lib.hid (And.intro hLW hLV)
      clear hLW hLV
      have b0 := hO.box
      have c0 := hO.own 0 (by omega)
      have c1 := hO.own 1 (by omega)
      have c2 := hO.own 2 (by omega)
      have c3 := hO.own 3 (by omega)
      clear hO
      generalize v 0 = v0 at *
      generalize v 1 = v1 at *
      generalize v 2 = v2 at *
      generalize v 3 = v3 at *
      change wr.ownsRow _ _ 1 v0 LW.length (is LW) at c0
      change wr.ownsRow _ _ 1 v1 LV.length (is LV) at c1
      change wr.ownsRow _ _ 1 v2 0 (is []) at c2
      change wr.ownsRow _ _ 1 v3 0 (is []) at c3
      have LEN := Lib.hid (And.intro lenW lenV)
      rw [lenW] at c0
      rw [lenV] at c1
      clear lenW lenV
      obtain ⟨A0, C0, rfl, _⟩ := own_form c0
      obtain ⟨A1, C1, rfl, _⟩ := own_form c1
      obtain ⟨A2, C2, rfl, _⟩ := own_form c2
      obtain ⟨A3, C3, rfl, _⟩ := own_form c3
      have k0 := own_put4 c0 hR rows_ne (.slice A0 k C0) (.slice A1 k C1) (.slice A2 0 C2) (.slice A3 0 C3)
      have k1 := own_put4 c1 hR rows_ne (.slice A0 k C0) (.slice A1 k C1) (.slice A2 0 C2) (.slice A3 0 C3)
      have k2 := own_put4 c2 hR rows_ne (.slice A0 k C0) (.slice A1 k C1) (.slice A2 0 C2) (.slice A3 0 C3)
      have k3 := own_put4 c3 hR rows_ne (.slice A0 k C0) (.slice A1 k C1) (.slice A2 0 C2) (.slice A3 0 C3)
      have hb1 := ((((hB.setCell (p := ⟨g + 1 + 1, 0, none⟩) (show wS.heap.size ≤ g + 1 + 1 by omega) (.slice A0 k C0)).setCell (p := ⟨g + 1 + 1, 1, none⟩) (show wS.heap.size ≤ g + 1 + 1 by omega) (.slice A1 k C1)).setCell (p := ⟨g + 1 + 1, 2, none⟩) (show wS.heap.size ≤ g + 1 + 1 by omega) (.slice A2 0 C2)).setCell (p := ⟨g + 1 + 1, 3, none⟩) (show wS.heap.size ≤ g + 1 + 1 by omega) (.slice A3 0 C3))
      rw [← LEN.out.1] at k0
      rw [← LEN.out.2] at k1
      have P0 := IsI.of_own k0
      have P1 := IsI.of_own k1
      rw [LEN.out.1] at P0
      rw [LEN.out.2] at P1
      have P := Lib.hid (And.intro P0 (And.intro P1 (And.intro (IsI.of_own (l := []) k2) (And.intro (IsI.of_own (l := []) k3) hb1))))
      clear k0 k1 k2 k3 hb1 c0 c1 c2 c3 P0 P1
      obtain ⟨o0, o1, o2, o3⟩ := b0.cells4
      clear b0
      obtain ⟨q0, q1, q2, q3⟩ := hR.cells4
      have z0 := hR.frozen 0
      have z1 := hR.frozen 1
      have z2 := hR.frozen 2
      have z3 := hR.frozen 3
      go_wp2
      obtain ⟨P1, P2, P3, P4, P5⟩ := P.out
      rw [HL.out.1] at P1
      rw [HL.out.2] at P2
      exact bodyPost_ret (v := .tuple #[.agg #[.slice A0 k C0, .slice A1 k C1, .slice A2 0 C2, .slice A3 0 C3], .int .i64 0]) (by simp [results, Try.results11, go_sem, q0, q1, q2, q3]) rfl ⟨fun e => absurd hE.out e, fun _ => ⟨_, rfl, ⟨_, _, _, _, rfl, P1, P2, P3, P4⟩⟩, P5⟩
end Go.Proofs.Ytbnnonmkkkhepaa
