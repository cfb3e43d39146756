/- Two rows, the first one of whole blocks, kept one behind the other, are the blocks of both, if none of the three is short. No conditions: every input. The walk of the main case. Printed by gen_tjoin14.py. -/
import Derived.Test.YtochabikpaoalaaJoin14
import Derived.Deep.DrawnRows
namespace Go.Proofs.Ytochabikpaoalaa
open Go.RowKit
attribute [local go_sem ↓] Go.wp_at_zero Go.wp_at_succ
set_option maxRecDepth 100000 in
set_option maxHeartbeats 8000000 in
theorem TensJoined_main (k z m o : Int) (u v : Value) (a b : List Int) (w : World) (ha : IsI w u a) (hb : IsI w v b) (hia : ∀ x ∈ a, I64 x) (hib : ∀ x ∈ b, I64 x) (hla : a.length ≤ 17592186044416) (hlb : b.length ≤ 17592186044416) (hn : a.length + b.length ≤ 24) (hm : mayB k z m o = true) (hmod : a.length % z.toNat = 0) (hsa : ¬ (a.length : Int) < m) (hsb : ¬ (b.length : Int) < m) :
    Calls Try.prog 5 #[.agg #[.int .i64 k, .int .i64 z, .int .i64 m, .int .i64 o], u, v] w fun e w' => e = .returned (.bool true) ∧ Below w.heap.size w w' := by
  obtain ⟨A, C, rfl, hc1, hc2⟩ := id ha.form
  obtain ⟨A', C', rfl, hc3, hc4⟩ := id hb.form
  have hL := fun w => alive14_any w
  have d9 : decide ((24 : Int) < (a.length : Int) + (b.length : Int)) = false := decide_eq_false (by omega)
  have e9 : decide (24 < a.length + b.length) = false := decide_eq_false (by omega)
  have hM := fun w => rmay14_any k z m o w
  rw [hm] at hM
  obtain ⟨Z, rfl, z1, z2⟩ := size_of hm
  have hz3 : (Z : Int) ≠ 0 := by omega
  have hz0 : ((Z : Int) == 0) = false := by rw [beq_eq_false_iff_ne]; omega
  have hz4 : ¬ Z = 0 := by omega
  have hz5 : (0 : Int) < (Z : Int) := by omega
  rw [Int.toNat_natCast] at hmod
  obtain ⟨r, hr⟩ : ∃ r : Nat, r = a.length % Z := ⟨_, rfl⟩
  have hr1 : (a.length : Int) % (Z : Int) = (r : Int) := by rw [hr]; rfl
  have hr2 : (a.length : Int).tmod (Z : Int) = (r : Int) := by rw [Int.tmod_eq_emod_of_nonneg (by omega)]; exact hr1
  have hr3 : r ≤ 4096 := by rw [hr]; have := Nat.mod_lt a.length (show Z > 0 by omega); omega
  have hr4 : IntKind.i64.wrap ((a.length : Int).tmod (Z : Int)) = (r : Int) := by rw [hr2, IntKind.wrap_i64]; omega
  have hr5 : wrap64 ((a.length : Int).tmod (Z : Int)) = (r : Int) := by rw [hr2]; unfold wrap64; omega
  have hr6 : (((r : Nat) : Int) != 0) = false := by rw [show r = 0 from hr.trans hmod]; rfl
  have hs0 : ((r : Nat) : Int) = 0 := by rw [hr, hmod]; rfl
  have hs1 : (a.length : Int).tmod (Z : Int) = 0 := by rw [hr2]; exact hs0
  have hs2 : IntKind.i64.wrap ((a.length : Int).tmod (Z : Int)) = 0 := by rw [hr4]; exact hs0
  have hs3 : wrap64 ((a.length : Int).tmod (Z : Int)) = 0 := by rw [hr5]; exact hs0
  have hs4 : Z ∣ a.length := Nat.dvd_of_mod_eq_zero hmod
  have hs5 : (Z : Int) ∣ (a.length : Int) := Int.ofNat_dvd.2 hs4
  have hs6 : (a.length : Int) % (Z : Int) = 0 := by rw [hr1]; exact hs0
  clear hr3 hr4 hr5 hr6 hs0
  have d10 : decide ((a.length : Int) < m) = false := decide_eq_false (by omega)
  have d11 : decide ((b.length : Int) < m) = false := decide_eq_false (by omega)
  have hia_b : ∀ x ∈ a ++ b, I64 x := fun x hx => (List.mem_append.1 hx).elim (hia x) (hib x)
  have hO1 := fun w h => tof_own k Z m o (.slice A a.length C) a w h hia
  have hO2 := fun w h => tof_own k Z m o (.slice A' b.length C') b w h hib
  have hO3 := fun v w h => tof_own k Z m o v (a ++ b) w h hia_b
  obtain ⟨i0, hi0, hy0_, hy1_, hy2_⟩ := info_parts info_i64
  obtain ⟨z0, hz0_, hz1_, hz2_, hz3_⟩ := info_parts info_blk
  have ha48 : 0 + a.length ≤ 48 := by omega
  have hb48 : 0 + a.length + b.length ≤ 48 := by omega
  have hn14 : a.length ≤ 24 := by omega
  have hn24 : b.length ≤ 24 := by omega
  have hbl1 := ofS_len k m o Z a
  have hbl2 := ofS_len k m o Z b
  have HJ0 := joined_facts k m o Z a b hm hmod hsa hsb hn
  generalize ofE k Z m o a = e1 at *
  generalize ofE k Z m o b = e2 at *
  generalize ofE k Z m o (a ++ b) = e3 at *
  generalize ofS k Z m o a = S1 at *
  generalize ofS k Z m o b = S2 at *
  generalize ofS k Z m o (a ++ b) = S3 at *
  obtain ⟨p0, p1, p2, p3, p4, B1⟩ := S1
  obtain ⟨r0, r1, r2, r3, r4, B2⟩ := S2
  obtain ⟨t0, t1, t2, t3, t4, B3⟩ := S3
  simp only at hO1 hO2 hO3 hbl1 hbl2
  have hwr : IntKind.i64.wrap ((a.length : Int) + (b.length : Int)) = (a.length : Int) + (b.length : Int) := by rw [IntKind.wrap_i64]; omega
  have hwr2 : wrap64 ((a.length : Int) + (b.length : Int)) = (a.length : Int) + (b.length : Int) := by unfold wrap64; omega
  have HJ := Lib.hid HJ0
  clear HJ0 hr hr1 hr2 hia_b
  obtain ⟨W0, hW, hR, hB⟩ := box1 w 23 #[.int .i64 k, .int .i64 Z, .int .i64 m, .int .i64 o]
  obtain ⟨g, hg⟩ : ∃ g, g = w.heap.size := ⟨_, rfl⟩
  have hW' := Lib.hid (And.intro hW hg)
  rw [← hg] at hR
  have hgw : w.heap.size ≤ g := by omega
  clear hW hg
  have hKp := hR
  replace ha := ha.below hB
  replace hb := hb.below hB
  obtain ⟨c1_hKp_0, c1_hKp_1, c1_hKp_2, c1_hKp_3⟩ := hKp.quad
  go_enter Try.func5, Try.ntmps5
  go_wp2_with fail
  rw [← hW'.out.1, ← hW'.out.2]
  refine (hM _).mono ?_
  rintro e w1 ⟨rfl, b1⟩
  replace ha := ha.below b1
  replace hb := hb.below b1
  replace hKp := hKp.below b1 hKp.lt
  replace hB := hB.trans (b1.mono hB.size)
  clear c1_hKp_0 c1_hKp_1 c1_hKp_2 c1_hKp_3
  obtain ⟨c2_hKp_0, c2_hKp_1, c2_hKp_2, c2_hKp_3⟩ := hKp.quad
  go_wp2_with fail
  refine (hO1 _ ha).mono ?_
  rintro e w2 ⟨y1, rfl, hq1, b2⟩
  replace ha := ha.below b2
  replace hb := hb.below b2
  replace hKp := hKp.below b2 hKp.lt
  replace hB := hB.trans (b2.mono hB.size)
  clear c2_hKp_0 c2_hKp_1 c2_hKp_2 c2_hKp_3
  obtain ⟨c3_hKp_0, c3_hKp_1, c3_hKp_2, c3_hKp_3⟩ := hKp.quad
  obtain ⟨es1, hm1, he1, hf1⟩ := hq1.at_es
  obtain ⟨A1_, C1_, rfl, _, _⟩ := id he1.is.len
  have hln1 : (es1.map (·.1)).length = B1.length := by rw [hm1]
  rw [hln1] at he1
  have hoff1 := he1.ok.off
  have hXw : w.heap.size ≤ w2.heap.size := hB.size
  have hle1 : es1.length ≤ 24 := es_le hm1 hbl1 hn14
  clear hq1 hln1
  obtain ⟨V1, eV, hS1, bV1⟩ := box1 w2 28 #[.int .i64 p0, .int .i64 p1, .int .i64 p2, .int .i64 p3, .int .i64 p4, .slice A1_ B1.length C1_]
  obtain ⟨X1, eX⟩ : ∃ X, X = w2.heap.size := ⟨_, rfl⟩
  rw [← eX] at hS1
  have EV1 := Lib.hid (And.intro eV eX)
  clear eV eX
  go_upto_region 4 with fail
  rw [← EV1.out.1, ← EV1.out.2]
  replace ha := ha.below bV1
  replace hb := hb.below bV1
  replace hKp := hKp.below bV1 hKp.lt
  replace he1 := he1.below bV1
  replace hB := hB.trans (bV1.mono hB.size)
  clear c3_hKp_0 c3_hKp_1 c3_hKp_2 c3_hKp_3
  obtain ⟨c4_hKp_0, c4_hKp_1, c4_hKp_2, c4_hKp_3⟩ := hKp.quad
  clear c4_hKp_0 c4_hKp_1 c4_hKp_2 c4_hKp_3
  obtain ⟨c5_hKp_0, c5_hKp_1, c5_hKp_2, c5_hKp_3⟩ := hKp.quad
  obtain ⟨c5_hS1_0, c5_hS1_1, c5_hS1_2, c5_hS1_3, c5_hS1_4, c5_hS1_5⟩ := hS1.cells6
  have hoffX : ∀ e ∈ es1, OffB X1 e := by rw [EV1.out.2]; exact hoff1
  have hX1w : w.heap.size ≤ X1 := by rw [EV1.out.2]; exact hXw
  have hX1lt := hS1.lt
  clear hoff1 hXw
  go_wp2_with fail
  refine (hO2 _ hb).mono ?_
  rintro e w3 ⟨y2, rfl, hq2, b3⟩
  replace ha := ha.below b3
  replace hb := hb.below b3
  replace hKp := hKp.below b3 hKp.lt
  replace he1 := he1.below b3
  replace hS1 := hS1.below b3 hS1.lt
  replace hB := hB.trans (b3.mono hB.size)
  clear c5_hKp_0 c5_hKp_1 c5_hKp_2 c5_hKp_3 c5_hS1_0 c5_hS1_1 c5_hS1_2 c5_hS1_3 c5_hS1_4 c5_hS1_5
  obtain ⟨c6_hKp_0, c6_hKp_1, c6_hKp_2, c6_hKp_3⟩ := hKp.quad
  obtain ⟨c6_hS1_0, c6_hS1_1, c6_hS1_2, c6_hS1_3, c6_hS1_4, c6_hS1_5⟩ := hS1.cells6
  obtain ⟨es2, hm2, he2, hf2⟩ := hq2.at_es
  obtain ⟨A2_, C2_, rfl, _, _⟩ := id he2.is.len
  have hln2 : (es2.map (·.1)).length = B2.length := by rw [hm2]
  rw [hln2] at he2
  have hX13 := hS1.lt
  have hle2 : es2.length ≤ 24 := es_le hm2 hbl2 hn24
  clear hq2 hln2
  obtain ⟨V2, eV, hS2, bV2⟩ := box1 w3 28 #[.int .i64 r0, .int .i64 r1, .int .i64 r2, .int .i64 r3, .int .i64 r4, .slice A2_ B2.length C2_]
  obtain ⟨X2, eX⟩ : ∃ X, X = w3.heap.size := ⟨_, rfl⟩
  rw [← eX] at hS2
  have EV2 := Lib.hid (And.intro eV eX)
  clear eV eX
  go_upto_region 5 with fail
  rw [← EV2.out.1, ← EV2.out.2]
  replace ha := ha.below bV2
  replace hb := hb.below bV2
  replace hKp := hKp.below bV2 hKp.lt
  replace he1 := he1.below bV2
  replace hS1 := hS1.below bV2 hS1.lt
  replace he2 := he2.below bV2
  replace hB := hB.trans (bV2.mono hB.size)
  clear c6_hKp_0 c6_hKp_1 c6_hKp_2 c6_hKp_3 c6_hS1_0 c6_hS1_1 c6_hS1_2 c6_hS1_3 c6_hS1_4 c6_hS1_5
  obtain ⟨c7_hKp_0, c7_hKp_1, c7_hKp_2, c7_hKp_3⟩ := hKp.quad
  obtain ⟨c7_hS1_0, c7_hS1_1, c7_hS1_2, c7_hS1_3, c7_hS1_4, c7_hS1_5⟩ := hS1.cells6
  clear c7_hKp_0 c7_hKp_1 c7_hKp_2 c7_hKp_3 c7_hS1_0 c7_hS1_1 c7_hS1_2 c7_hS1_3 c7_hS1_4 c7_hS1_5
  obtain ⟨c8_hKp_0, c8_hKp_1, c8_hKp_2, c8_hKp_3⟩ := hKp.quad
  obtain ⟨c8_hS1_0, c8_hS1_1, c8_hS1_2, c8_hS1_3, c8_hS1_4, c8_hS1_5⟩ := hS1.cells6
  obtain ⟨c8_hS2_0, c8_hS2_1, c8_hS2_2, c8_hS2_3, c8_hS2_4, c8_hS2_5⟩ := hS2.cells6
  have hoffY : ∀ e ∈ es2, OffB X1 e := fun e he => off_fresh (hf2 e he) hX1lt
  have hn12 : X1 ≠ X2 := by rw [EV2.out.2]; omega
  have hX1V := hS1.lt
  clear hX1lt hX13 hf1 hf2
  go_cut [11, 12] (fun s t wx => ∃ (Zb : Nat) (A3 : Option Addr) (C3 : Nat), s = .pointer (some ⟨Zb, 0, none⟩) ∧ t = .int .i64 e3 ∧ Blk wx Zb 28 #[.int .i64 t0, .int .i64 t1, .int .i64 t2, .int .i64 t3, .int .i64 t4, .slice A3 B3.length C3] ∧ OwnBs wx V2.heap.size V2.heap.size (.slice A3 B3.length C3) B3 ∧ Below V2.heap.size V2 wx ∧ V2.heap.size ≤ Zb)
  case first =>
    refine wp_region_noPanic ?_
    refine wp_region_held_drew (S := fun w' => w'.cell? ⟨g, 0, none⟩ = some (.int .i64 k) ∧ w'.cell? ⟨g, 1, none⟩ = some (.int .i64 Z) ∧ w'.cell? ⟨g, 2, none⟩ = some (.int .i64 m) ∧ w'.cell? ⟨g, 3, none⟩ = some (.int .i64 o)) (by kernel_rfl) ?_ (fun hHeld => ?_)
    · exact ⟨(hKp.below (bdrew _) hKp.lt).cell 0, (hKp.below (bdrew _) hKp.lt).cell 1, (hKp.below (bdrew _) hKp.lt).cell 2, (hKp.below (bdrew _) hKp.lt).cell 3⟩
    generalize hwd : V2.drew = wd at hHeld ⊢
    have bd : Below V2.heap.size V2 wd := by rw [← hwd]; exact bdrew _
    clear hwd
    refine wpAnyH_take (i := 0) (v := ?b1_v0) rfl (by kernel_rfl) (by kernel_rfl) (by kernel_rfl) (fun _ _ _ h => h) (Or.inl ⟨by kernel_rfl, ?b1_hy0⟩) (by assumption) ?b1_rest0
    case b1_hy0 => (intro w hSw; (try dsimp only at hSw); go_simp; try (with_reducible rfl))
    try simp only [Act.put, lay1, lay2, lay3, lay4, lay5, lay6]
    refine wpAnyH_take (i := 2) (v := ?b2_v2) rfl (by kernel_rfl) (by kernel_rfl) (by kernel_rfl) (fun _ _ _ h => h) (Or.inl ⟨by kernel_rfl, ?b2_hy2⟩) (by assumption) ?b2_rest2
    case b2_hy2 => (intro w hSw; (try dsimp only at hSw); go_simp; try (with_reducible rfl))
    try simp only [Act.put, lay1, lay2, lay3, lay4, lay5, lay6]
    refine wpAnyH_take (i := 4) (v := ?b3_v4) rfl (by kernel_rfl) (by kernel_rfl) (by kernel_rfl) (fun _ _ _ h => h) (Or.inl ⟨by kernel_rfl, ?b3_hy4⟩) (by assumption) ?b3_rest4
    case b3_hy4 => (intro w hSw; (try dsimp only at hSw); go_simp; try (with_reducible rfl))
    try simp only [Act.put, lay1, lay2, lay3, lay4, lay5, lay6]
    refine wpAnyH_ready (rs := [1, 10]) (by kernel_rfl) (by simp) ?_
    refine AllReadyH.cons rfl (fun K hK => ?_) (AllReadyH.cons rfl (fun K hK => ?_) AllReadyH.nil)
    · obtain ⟨u1, e1, own, d1⟩ := litJ wd
      obtain ⟨g1, eg1⟩ : ∃ y, y = wd.heap.size := ⟨_, rfl⟩
      have hbase : g1 ≤ u1.heap.size := by rw [eg1]; exact d1.size
      have D1 := bstep bd d1
      have bN : V2.heap.size ≤ g1 := by rw [eg1]; exact bd.size
      have EE := Lib.hid (And.intro e1 eg1)
      rw [← eg1] at own d1
      clear e1 eg1
      go_simp
      rw [← EE.out.1, ← EE.out.2]
      clear EE
      refine hK.out _ _ ?_ (fun hHeld => ?_)
      · exact ⟨(hKp.below D1 hKp.lt).cell 0, (hKp.below D1 hKp.lt).cell 1, (hKp.below D1 hKp.lt).cell 2, (hKp.below D1 hKp.lt).cell 3⟩
      clear hK K
      try simp only [Act.put, lay1, lay2, lay3, lay4, lay5, lay6]
      refine wpAnyH_ready (rs := [3, 10]) (by kernel_rfl) (by simp) ?_
      refine AllReadyH.cons rfl (fun K hK => ?_) (AllReadyH.cons rfl (fun K hK => ?_) AllReadyH.nil)
      · have sv := ha.below D1
        obtain ⟨A8, C8, e8, _, _, hR8⟩ := sv
        obtain ⟨rfl, _, rfl⟩ := Value.slice.inj e8
        refine step_append_any _ rfl (.tmp 61) (.tmp 62) _ rfl g1 2 i0 _ 1 8 Try.underlying24 hi0 hy0_ hy1_ hy2_ rfl (by decide) _ _ _ rfl own u1.heap.size _ a.length _ (is a) rfl hR8 (is_one _) (len63 ha48) (len47 ha48) hbase ?_
        intro v2 u2 own2 hgr hat
        have d2 : Below g1 u1 u2 := (Below.refl g1 u1).grown hgr hbase (fun j e => (own.lt j e).1)
        have D2 := D1.trans (d2.mono bN)
        rw [← is_append] at own2
        replace own := own2
        replace hbase : g1 ≤ u2.heap.size := Nat.le_trans hbase d2.size
        clear own2 hgr hat
        refine hK.out _ _ ?_ (fun hHeld => ?_)
        · exact ⟨(hKp.below D2 hKp.lt).cell 0, (hKp.below D2 hKp.lt).cell 1, (hKp.below D2 hKp.lt).cell 2, (hKp.below D2 hKp.lt).cell 3⟩
        clear hK K
        try simp only [Act.put, lay1, lay2, lay3, lay4, lay5, lay6]
        refine wpAnyH_ready (rs := [5, 10]) (by kernel_rfl) (by simp) ?_
        refine AllReadyH.cons rfl (fun K hK => ?_) (AllReadyH.cons rfl (fun K hK => ?_) AllReadyH.nil)
        · have sv := hb.below D2
          obtain ⟨A8, C8, e8, _, _, hR8⟩ := sv
          obtain ⟨rfl, _, rfl⟩ := Value.slice.inj e8
          refine step_append_any _ rfl (.tmp 63) (.tmp 64) _ rfl g1 2 i0 _ 1 8 Try.underlying24 hi0 hy0_ hy1_ hy2_ rfl (by decide) _ _ _ rfl own u2.heap.size _ b.length _ (is b) rfl hR8 (is_one _) (len63 hb48) (len47 hb48) hbase ?_
          intro v3 u3 own3 hgr hat
          have d3 : Below g1 u2 u3 := (Below.refl g1 u2).grown hgr hbase (fun j e => (own.lt j e).1)
          have D3 := D2.trans (d3.mono bN)
          rw [← is_append] at own3
          replace own := own3
          replace hbase : g1 ≤ u3.heap.size := Nat.le_trans hbase d3.size
          clear own3 hgr hat
          refine hK.out _ _ ?_ (fun hHeld => ?_)
          · exact ⟨(hKp.below D3 hKp.lt).cell 0, (hKp.below D3 hKp.lt).cell 1, (hKp.below D3 hKp.lt).cell 2, (hKp.below D3 hKp.lt).cell 3⟩
          clear hK K
          try simp only [Act.put, lay1, lay2, lay3, lay4, lay5, lay6]
          refine wpAnyH_ready (rs := [6, 10]) (by kernel_rfl) (by simp) ?_
          refine AllReadyH.cons rfl (fun K hK => ?_) (AllReadyH.cons rfl (fun K hK => ?_) AllReadyH.nil)
          · have hown' := own
            simp only [List.nil_append, Nat.zero_add] at hown'
            have hI' : IsI u3 v3 (a ++ b) := IsI.of_own (by rw [List.length_append]; exact hown')
            go_simp
            refine (hO3 _ _ hI').mono ?_
            rintro e u4 ⟨y3, rfl, hb3, d4⟩
            have D4 := bstep D3 d4
            obtain ⟨A3, C3, rfl, _, _⟩ := id hb3.is.len
            clear hown' hI' own hbase bN
            go_wp2_with fail
            refine hK.out _ _ ?_ (fun hHeld => ?_)
            · exact ⟨(hKp.below D4 hKp.lt).cell 0, (hKp.below D4 hKp.lt).cell 1, (hKp.below D4 hKp.lt).cell 2, (hKp.below D4 hKp.lt).cell 3⟩
            clear hK K
            try simp only [Act.put, lay1, lay2, lay3, lay4, lay5, lay6]
            refine wpAnyH_take (i := 7) (v := ?b4_v7) rfl (by kernel_rfl) (by kernel_rfl) (by kernel_rfl) (fun _ _ _ h => h) (Or.inl ⟨by kernel_rfl, ?b4_hy7⟩) (by assumption) ?b4_rest7
            case b4_hy7 => (intro w hSw; (try dsimp only at hSw); go_simp; try (with_reducible rfl))
            try simp only [Act.put, lay1, lay2, lay3, lay4, lay5, lay6]
            refine wpAnyH_take (i := 8) (v := ?b5_v8) rfl (by kernel_rfl) (by kernel_rfl) (by kernel_rfl) (fun _ _ _ h => h) (Or.inl ⟨by kernel_rfl, ?b5_hy8⟩) (by assumption) ?b5_rest8
            case b5_hy8 => (intro w hSw; (try dsimp only at hSw); go_simp; try (with_reducible rfl))
            try simp only [Act.put, lay1, lay2, lay3, lay4, lay5, lay6]
            refine wpAnyH_take (i := 9) (v := ?b6_v9) rfl (by kernel_rfl) (by kernel_rfl) (by kernel_rfl) (fun _ _ _ h => h) (Or.inl ⟨by kernel_rfl, ?b6_hy9⟩) (by assumption) ?b6_rest9
            case b6_hy9 => (intro w hSw; (try dsimp only at hSw); go_simp; try (with_reducible rfl))
            try simp only [Act.put, lay1, lay2, lay3, lay4, lay5, lay6]
            refine wpAnyH_ready (rs := [10]) (by kernel_rfl) (by simp) ?_
            refine AllReadyH.cons rfl (fun K hK => ?_) AllReadyH.nil
            obtain ⟨u5, e5, hz, d5⟩ := box1 u4 28 #[.int .i64 0, .int .i64 0, .int .i64 0, .int .i64 0, .int .i64 0, .slice none 0 0]
            obtain ⟨gz, egz⟩ : ∃ y, y = u4.heap.size := ⟨_, rfl⟩
            have hzb : V2.heap.size ≤ gz := by rw [egz]; exact D4.size
            have D5 := bstep D4 d5
            have hgz : u4.heap.size ≤ gz := by rw [egz]; exact Nat.le_refl _
            rw [← egz] at hz
            have EE := Lib.hid (And.intro e5 egz)
            clear e5 egz
            go_simp
            rw [← EE.out.1, ← EE.out.2]
            clear EE
            refine hK.out _ _ ?_ (fun hHeld => ?_)
            · exact ⟨(hKp.below D5 hKp.lt).cell 0, (hKp.below D5 hKp.lt).cell 1, (hKp.below D5 hKp.lt).cell 2, (hKp.below D5 hKp.lt).cell 3⟩
            clear hK K
            try simp only [Act.put, lay1, lay2, lay3, lay4, lay5, lay6]
            refine wpAnyH_ready (rs := [11]) (by kernel_rfl) (by simp) ?_
            refine AllReadyH.cons rfl (fun K hK => ?_) AllReadyH.nil
            have y0 := hz.cell 0
            have yf0 := hz.frozen 0
            have y1 := hz.cell 1
            have yf1 := hz.frozen 1
            have y2 := hz.cell 2
            have yf2 := hz.frozen 2
            have y3 := hz.cell 3
            have yf3 := hz.frozen 3
            have y4 := hz.cell 4
            have yf4 := hz.frozen 4
            have y5 := hz.cell 5
            have yf5 := hz.frozen 5
            obtain ⟨u6, e6, hz5, D6, hOs, hBl⟩ := boxSt u5 28 (.int .i64 t0) (.int .i64 t1) (.int .i64 t2) (.int .i64 t3) (.int .i64 t4) (.slice A3 B3.length C3) hz D5 hzb
            have hb4 := (hb3.below (hBl _ _ d5 hgz)).lower D3.size D3.size
            go_simp
            rw [← e6]
            clear y0 yf0 y1 yf1 y2 yf2 y3 yf3 y4 yf4 y5 yf5
            refine hK.out _ _ ?_ (fun hHeld => ?_)
            · exact ⟨(hKp.below D6 hKp.lt).cell 0, (hKp.below D6 hKp.lt).cell 1, (hKp.below D6 hKp.lt).cell 2, (hKp.below D6 hKp.lt).cell 3⟩
            clear hK K
            try simp only [Act.put, lay1, lay2, lay3, lay4, lay5, lay6]
            refine wpAnyH_take (i := 12) (v := ?b7_v12) rfl (by kernel_rfl) (by kernel_rfl) (by kernel_rfl) (fun _ _ _ h => h) (Or.inl ⟨by kernel_rfl, ?b7_hy12⟩) (by assumption) ?b7_rest12
            case b7_hy12 => (intro w hSw; (try dsimp only at hSw); go_simp; try (with_reducible rfl))
            try simp only [Act.put, lay1, lay2, lay3, lay4, lay5, lay6]
            try dsimp only
            refine wpAnyH_done (by kernel_rfl) ?_ _
            refine NoPanic.normal ?_
            go_wp2_with fail
            go_meet
            exact ⟨gz, A3, C3, rfl, rfl, hz5, hb4, D6, hzb⟩
          · obtain ⟨u7, e7, hz, d7⟩ := box1 u3 28 #[.int .i64 0, .int .i64 0, .int .i64 0, .int .i64 0, .int .i64 0, .slice none 0 0]
            obtain ⟨gz, egz⟩ : ∃ y, y = u3.heap.size := ⟨_, rfl⟩
            have hzb : V2.heap.size ≤ gz := by rw [egz]; exact D3.size
            have D7 := bstep D3 d7
            replace own := own_below own d7
            replace hbase := Nat.le_trans hbase d7.size
            rw [← egz] at hz
            have EE := Lib.hid (And.intro e7 egz)
            clear e7 egz
            go_simp
            rw [← EE.out.1, ← EE.out.2]
            clear EE
            refine hK.out _ _ ?_ (fun hHeld => ?_)
            · exact ⟨(hKp.below D7 hKp.lt).cell 0, (hKp.below D7 hKp.lt).cell 1, (hKp.below D7 hKp.lt).cell 2, (hKp.below D7 hKp.lt).cell 3⟩
            clear hK K
            try simp only [Act.put, lay1, lay2, lay3, lay4, lay5, lay6]
            refine wpAnyH_ready (rs := [6]) (by kernel_rfl) (by simp) ?_
            refine AllReadyH.cons rfl (fun K hK => ?_) AllReadyH.nil
            have hown' := own
            simp only [List.nil_append, Nat.zero_add] at hown'
            have hI' : IsI u7 v3 (a ++ b) := IsI.of_own (by rw [List.length_append]; exact hown')
            go_simp
            refine (hO3 _ _ hI').mono ?_
            rintro e u8 ⟨y3, rfl, hb3, d8⟩
            have D8 := bstep D7 d8
            have hgz : gz < u7.heap.size := hz.lt
            replace hz := hz.below d8 hz.lt
            obtain ⟨A3, C3, rfl, _, _⟩ := id hb3.is.len
            clear hown' hI' own hbase bN
            go_wp2_with fail
            refine hK.out _ _ ?_ (fun hHeld => ?_)
            · exact ⟨(hKp.below D8 hKp.lt).cell 0, (hKp.below D8 hKp.lt).cell 1, (hKp.below D8 hKp.lt).cell 2, (hKp.below D8 hKp.lt).cell 3⟩
            clear hK K
            try simp only [Act.put, lay1, lay2, lay3, lay4, lay5, lay6]
            refine wpAnyH_take (i := 7) (v := ?b8_v7) rfl (by kernel_rfl) (by kernel_rfl) (by kernel_rfl) (fun _ _ _ h => h) (Or.inl ⟨by kernel_rfl, ?b8_hy7⟩) (by assumption) ?b8_rest7
            case b8_hy7 => (intro w hSw; (try dsimp only at hSw); go_simp; try (with_reducible rfl))
            try simp only [Act.put, lay1, lay2, lay3, lay4, lay5, lay6]
            refine wpAnyH_take (i := 8) (v := ?b9_v8) rfl (by kernel_rfl) (by kernel_rfl) (by kernel_rfl) (fun _ _ _ h => h) (Or.inl ⟨by kernel_rfl, ?b9_hy8⟩) (by assumption) ?b9_rest8
            case b9_hy8 => (intro w hSw; (try dsimp only at hSw); go_simp; try (with_reducible rfl))
            try simp only [Act.put, lay1, lay2, lay3, lay4, lay5, lay6]
            refine wpAnyH_take (i := 9) (v := ?b10_v9) rfl (by kernel_rfl) (by kernel_rfl) (by kernel_rfl) (fun _ _ _ h => h) (Or.inl ⟨by kernel_rfl, ?b10_hy9⟩) (by assumption) ?b10_rest9
            case b10_hy9 => (intro w hSw; (try dsimp only at hSw); go_simp; try (with_reducible rfl))
            try simp only [Act.put, lay1, lay2, lay3, lay4, lay5, lay6]
            refine wpAnyH_ready (rs := [11]) (by kernel_rfl) (by simp) ?_
            refine AllReadyH.cons rfl (fun K hK => ?_) AllReadyH.nil
            have y0 := hz.cell 0
            have yf0 := hz.frozen 0
            have y1 := hz.cell 1
            have yf1 := hz.frozen 1
            have y2 := hz.cell 2
            have yf2 := hz.frozen 2
            have y3 := hz.cell 3
            have yf3 := hz.frozen 3
            have y4 := hz.cell 4
            have yf4 := hz.frozen 4
            have y5 := hz.cell 5
            have yf5 := hz.frozen 5
            obtain ⟨u9, e9, hz5, D9, hOs, hBl⟩ := boxSt u8 28 (.int .i64 t0) (.int .i64 t1) (.int .i64 t2) (.int .i64 t3) (.int .i64 t4) (.slice A3 B3.length C3) hz D8 hzb
            have hb4 := (hOs _ _ _ _ hb3 hgz hgz).lower D7.size D7.size
            go_simp
            rw [← e9]
            clear y0 yf0 y1 yf1 y2 yf2 y3 yf3 y4 yf4 y5 yf5
            refine hK.out _ _ ?_ (fun hHeld => ?_)
            · exact ⟨(hKp.below D9 hKp.lt).cell 0, (hKp.below D9 hKp.lt).cell 1, (hKp.below D9 hKp.lt).cell 2, (hKp.below D9 hKp.lt).cell 3⟩
            clear hK K
            try simp only [Act.put, lay1, lay2, lay3, lay4, lay5, lay6]
            refine wpAnyH_take (i := 12) (v := ?b11_v12) rfl (by kernel_rfl) (by kernel_rfl) (by kernel_rfl) (fun _ _ _ h => h) (Or.inl ⟨by kernel_rfl, ?b11_hy12⟩) (by assumption) ?b11_rest12
            case b11_hy12 => (intro w hSw; (try dsimp only at hSw); go_simp; try (with_reducible rfl))
            try simp only [Act.put, lay1, lay2, lay3, lay4, lay5, lay6]
            try dsimp only
            refine wpAnyH_done (by kernel_rfl) ?_ _
            refine NoPanic.normal ?_
            go_wp2_with fail
            go_meet
            exact ⟨gz, A3, C3, rfl, rfl, hz5, hb4, D9, hzb⟩
        · obtain ⟨u10, e10, hz, d10⟩ := box1 u2 28 #[.int .i64 0, .int .i64 0, .int .i64 0, .int .i64 0, .int .i64 0, .slice none 0 0]
          obtain ⟨gz, egz⟩ : ∃ y, y = u2.heap.size := ⟨_, rfl⟩
          have hzb : V2.heap.size ≤ gz := by rw [egz]; exact D2.size
          have D10 := bstep D2 d10
          replace own := own_below own d10
          replace hbase := Nat.le_trans hbase d10.size
          rw [← egz] at hz
          have EE := Lib.hid (And.intro e10 egz)
          clear e10 egz
          go_simp
          rw [← EE.out.1, ← EE.out.2]
          clear EE
          refine hK.out _ _ ?_ (fun hHeld => ?_)
          · exact ⟨(hKp.below D10 hKp.lt).cell 0, (hKp.below D10 hKp.lt).cell 1, (hKp.below D10 hKp.lt).cell 2, (hKp.below D10 hKp.lt).cell 3⟩
          clear hK K
          try simp only [Act.put, lay1, lay2, lay3, lay4, lay5, lay6]
          refine wpAnyH_ready (rs := [5]) (by kernel_rfl) (by simp) ?_
          refine AllReadyH.cons rfl (fun K hK => ?_) AllReadyH.nil
          have sv := hb.below D10
          obtain ⟨A8, C8, e8, _, _, hR8⟩ := sv
          obtain ⟨rfl, _, rfl⟩ := Value.slice.inj e8
          refine step_append_any _ rfl (.tmp 63) (.tmp 64) _ rfl g1 2 i0 _ 1 8 Try.underlying24 hi0 hy0_ hy1_ hy2_ rfl (by decide) _ _ _ rfl own u10.heap.size _ b.length _ (is b) rfl hR8 (is_one _) (len63 hb48) (len47 hb48) hbase ?_
          intro v11 u11 own11 hgr hat
          have d11 : Below g1 u10 u11 := (Below.refl g1 u10).grown hgr hbase (fun j e => (own.lt j e).1)
          have D11 := D10.trans (d11.mono bN)
          rw [← is_append] at own11
          replace hz := hz.grown hgr (fun e => own_typeB own hz (by decide) e.symm)
          replace own := own11
          replace hbase : g1 ≤ u11.heap.size := Nat.le_trans hbase d11.size
          clear own11 hgr hat
          refine hK.out _ _ ?_ (fun hHeld => ?_)
          · exact ⟨(hKp.below D11 hKp.lt).cell 0, (hKp.below D11 hKp.lt).cell 1, (hKp.below D11 hKp.lt).cell 2, (hKp.below D11 hKp.lt).cell 3⟩
          clear hK K
          try simp only [Act.put, lay1, lay2, lay3, lay4, lay5, lay6]
          refine wpAnyH_ready (rs := [6]) (by kernel_rfl) (by simp) ?_
          refine AllReadyH.cons rfl (fun K hK => ?_) AllReadyH.nil
          have hown' := own
          simp only [List.nil_append, Nat.zero_add] at hown'
          have hI' : IsI u11 v11 (a ++ b) := IsI.of_own (by rw [List.length_append]; exact hown')
          go_simp
          refine (hO3 _ _ hI').mono ?_
          rintro e u12 ⟨y3, rfl, hb3, d12⟩
          have D12 := bstep D11 d12
          have hgz : gz < u11.heap.size := hz.lt
          replace hz := hz.below d12 hz.lt
          obtain ⟨A3, C3, rfl, _, _⟩ := id hb3.is.len
          clear hown' hI' own hbase bN
          go_wp2_with fail
          refine hK.out _ _ ?_ (fun hHeld => ?_)
          · exact ⟨(hKp.below D12 hKp.lt).cell 0, (hKp.below D12 hKp.lt).cell 1, (hKp.below D12 hKp.lt).cell 2, (hKp.below D12 hKp.lt).cell 3⟩
          clear hK K
          try simp only [Act.put, lay1, lay2, lay3, lay4, lay5, lay6]
          refine wpAnyH_take (i := 7) (v := ?b12_v7) rfl (by kernel_rfl) (by kernel_rfl) (by kernel_rfl) (fun _ _ _ h => h) (Or.inl ⟨by kernel_rfl, ?b12_hy7⟩) (by assumption) ?b12_rest7
          case b12_hy7 => (intro w hSw; (try dsimp only at hSw); go_simp; try (with_reducible rfl))
          try simp only [Act.put, lay1, lay2, lay3, lay4, lay5, lay6]
          refine wpAnyH_take (i := 8) (v := ?b13_v8) rfl (by kernel_rfl) (by kernel_rfl) (by kernel_rfl) (fun _ _ _ h => h) (Or.inl ⟨by kernel_rfl, ?b13_hy8⟩) (by assumption) ?b13_rest8
          case b13_hy8 => (intro w hSw; (try dsimp only at hSw); go_simp; try (with_reducible rfl))
          try simp only [Act.put, lay1, lay2, lay3, lay4, lay5, lay6]
          refine wpAnyH_take (i := 9) (v := ?b14_v9) rfl (by kernel_rfl) (by kernel_rfl) (by kernel_rfl) (fun _ _ _ h => h) (Or.inl ⟨by kernel_rfl, ?b14_hy9⟩) (by assumption) ?b14_rest9
          case b14_hy9 => (intro w hSw; (try dsimp only at hSw); go_simp; try (with_reducible rfl))
          try simp only [Act.put, lay1, lay2, lay3, lay4, lay5, lay6]
          refine wpAnyH_ready (rs := [11]) (by kernel_rfl) (by simp) ?_
          refine AllReadyH.cons rfl (fun K hK => ?_) AllReadyH.nil
          have y0 := hz.cell 0
          have yf0 := hz.frozen 0
          have y1 := hz.cell 1
          have yf1 := hz.frozen 1
          have y2 := hz.cell 2
          have yf2 := hz.frozen 2
          have y3 := hz.cell 3
          have yf3 := hz.frozen 3
          have y4 := hz.cell 4
          have yf4 := hz.frozen 4
          have y5 := hz.cell 5
          have yf5 := hz.frozen 5
          obtain ⟨u13, e13, hz5, D13, hOs, hBl⟩ := boxSt u12 28 (.int .i64 t0) (.int .i64 t1) (.int .i64 t2) (.int .i64 t3) (.int .i64 t4) (.slice A3 B3.length C3) hz D12 hzb
          have hb4 := (hOs _ _ _ _ hb3 hgz hgz).lower D11.size D11.size
          go_simp
          rw [← e13]
          clear y0 yf0 y1 yf1 y2 yf2 y3 yf3 y4 yf4 y5 yf5
          refine hK.out _ _ ?_ (fun hHeld => ?_)
          · exact ⟨(hKp.below D13 hKp.lt).cell 0, (hKp.below D13 hKp.lt).cell 1, (hKp.below D13 hKp.lt).cell 2, (hKp.below D13 hKp.lt).cell 3⟩
          clear hK K
          try simp only [Act.put, lay1, lay2, lay3, lay4, lay5, lay6]
          refine wpAnyH_take (i := 12) (v := ?b15_v12) rfl (by kernel_rfl) (by kernel_rfl) (by kernel_rfl) (fun _ _ _ h => h) (Or.inl ⟨by kernel_rfl, ?b15_hy12⟩) (by assumption) ?b15_rest12
          case b15_hy12 => (intro w hSw; (try dsimp only at hSw); go_simp; try (with_reducible rfl))
          try simp only [Act.put, lay1, lay2, lay3, lay4, lay5, lay6]
          try dsimp only
          refine wpAnyH_done (by kernel_rfl) ?_ _
          refine NoPanic.normal ?_
          go_wp2_with fail
          go_meet
          exact ⟨gz, A3, C3, rfl, rfl, hz5, hb4, D13, hzb⟩
      · obtain ⟨u14, e14, hz, d14⟩ := box1 u1 28 #[.int .i64 0, .int .i64 0, .int .i64 0, .int .i64 0, .int .i64 0, .slice none 0 0]
        obtain ⟨gz, egz⟩ : ∃ y, y = u1.heap.size := ⟨_, rfl⟩
        have hzb : V2.heap.size ≤ gz := by rw [egz]; exact D1.size
        have D14 := bstep D1 d14
        replace own := own_below own d14
        replace hbase := Nat.le_trans hbase d14.size
        rw [← egz] at hz
        have EE := Lib.hid (And.intro e14 egz)
        clear e14 egz
        go_simp
        rw [← EE.out.1, ← EE.out.2]
        clear EE
        refine hK.out _ _ ?_ (fun hHeld => ?_)
        · exact ⟨(hKp.below D14 hKp.lt).cell 0, (hKp.below D14 hKp.lt).cell 1, (hKp.below D14 hKp.lt).cell 2, (hKp.below D14 hKp.lt).cell 3⟩
        clear hK K
        try simp only [Act.put, lay1, lay2, lay3, lay4, lay5, lay6]
        refine wpAnyH_ready (rs := [3]) (by kernel_rfl) (by simp) ?_
        refine AllReadyH.cons rfl (fun K hK => ?_) AllReadyH.nil
        have sv := ha.below D14
        obtain ⟨A8, C8, e8, _, _, hR8⟩ := sv
        obtain ⟨rfl, _, rfl⟩ := Value.slice.inj e8
        refine step_append_any _ rfl (.tmp 61) (.tmp 62) _ rfl g1 2 i0 _ 1 8 Try.underlying24 hi0 hy0_ hy1_ hy2_ rfl (by decide) _ _ _ rfl own u14.heap.size _ a.length _ (is a) rfl hR8 (is_one _) (len63 ha48) (len47 ha48) hbase ?_
        intro v15 u15 own15 hgr hat
        have d15 : Below g1 u14 u15 := (Below.refl g1 u14).grown hgr hbase (fun j e => (own.lt j e).1)
        have D15 := D14.trans (d15.mono bN)
        rw [← is_append] at own15
        replace hz := hz.grown hgr (fun e => own_typeB own hz (by decide) e.symm)
        replace own := own15
        replace hbase : g1 ≤ u15.heap.size := Nat.le_trans hbase d15.size
        clear own15 hgr hat
        refine hK.out _ _ ?_ (fun hHeld => ?_)
        · exact ⟨(hKp.below D15 hKp.lt).cell 0, (hKp.below D15 hKp.lt).cell 1, (hKp.below D15 hKp.lt).cell 2, (hKp.below D15 hKp.lt).cell 3⟩
        clear hK K
        try simp only [Act.put, lay1, lay2, lay3, lay4, lay5, lay6]
        refine wpAnyH_ready (rs := [5]) (by kernel_rfl) (by simp) ?_
        refine AllReadyH.cons rfl (fun K hK => ?_) AllReadyH.nil
        have sv := hb.below D15
        obtain ⟨A8, C8, e8, _, _, hR8⟩ := sv
        obtain ⟨rfl, _, rfl⟩ := Value.slice.inj e8
        refine step_append_any _ rfl (.tmp 63) (.tmp 64) _ rfl g1 2 i0 _ 1 8 Try.underlying24 hi0 hy0_ hy1_ hy2_ rfl (by decide) _ _ _ rfl own u15.heap.size _ b.length _ (is b) rfl hR8 (is_one _) (len63 hb48) (len47 hb48) hbase ?_
        intro v16 u16 own16 hgr hat
        have d16 : Below g1 u15 u16 := (Below.refl g1 u15).grown hgr hbase (fun j e => (own.lt j e).1)
        have D16 := D15.trans (d16.mono bN)
        rw [← is_append] at own16
        replace hz := hz.grown hgr (fun e => own_typeB own hz (by decide) e.symm)
        replace own := own16
        replace hbase : g1 ≤ u16.heap.size := Nat.le_trans hbase d16.size
        clear own16 hgr hat
        refine hK.out _ _ ?_ (fun hHeld => ?_)
        · exact ⟨(hKp.below D16 hKp.lt).cell 0, (hKp.below D16 hKp.lt).cell 1, (hKp.below D16 hKp.lt).cell 2, (hKp.below D16 hKp.lt).cell 3⟩
        clear hK K
        try simp only [Act.put, lay1, lay2, lay3, lay4, lay5, lay6]
        refine wpAnyH_ready (rs := [6]) (by kernel_rfl) (by simp) ?_
        refine AllReadyH.cons rfl (fun K hK => ?_) AllReadyH.nil
        have hown' := own
        simp only [List.nil_append, Nat.zero_add] at hown'
        have hI' : IsI u16 v16 (a ++ b) := IsI.of_own (by rw [List.length_append]; exact hown')
        go_simp
        refine (hO3 _ _ hI').mono ?_
        rintro e u17 ⟨y3, rfl, hb3, d17⟩
        have D17 := bstep D16 d17
        have hgz : gz < u16.heap.size := hz.lt
        replace hz := hz.below d17 hz.lt
        obtain ⟨A3, C3, rfl, _, _⟩ := id hb3.is.len
        clear hown' hI' own hbase bN
        go_wp2_with fail
        refine hK.out _ _ ?_ (fun hHeld => ?_)
        · exact ⟨(hKp.below D17 hKp.lt).cell 0, (hKp.below D17 hKp.lt).cell 1, (hKp.below D17 hKp.lt).cell 2, (hKp.below D17 hKp.lt).cell 3⟩
        clear hK K
        try simp only [Act.put, lay1, lay2, lay3, lay4, lay5, lay6]
        refine wpAnyH_take (i := 7) (v := ?b16_v7) rfl (by kernel_rfl) (by kernel_rfl) (by kernel_rfl) (fun _ _ _ h => h) (Or.inl ⟨by kernel_rfl, ?b16_hy7⟩) (by assumption) ?b16_rest7
        case b16_hy7 => (intro w hSw; (try dsimp only at hSw); go_simp; try (with_reducible rfl))
        try simp only [Act.put, lay1, lay2, lay3, lay4, lay5, lay6]
        refine wpAnyH_take (i := 8) (v := ?b17_v8) rfl (by kernel_rfl) (by kernel_rfl) (by kernel_rfl) (fun _ _ _ h => h) (Or.inl ⟨by kernel_rfl, ?b17_hy8⟩) (by assumption) ?b17_rest8
        case b17_hy8 => (intro w hSw; (try dsimp only at hSw); go_simp; try (with_reducible rfl))
        try simp only [Act.put, lay1, lay2, lay3, lay4, lay5, lay6]
        refine wpAnyH_take (i := 9) (v := ?b18_v9) rfl (by kernel_rfl) (by kernel_rfl) (by kernel_rfl) (fun _ _ _ h => h) (Or.inl ⟨by kernel_rfl, ?b18_hy9⟩) (by assumption) ?b18_rest9
        case b18_hy9 => (intro w hSw; (try dsimp only at hSw); go_simp; try (with_reducible rfl))
        try simp only [Act.put, lay1, lay2, lay3, lay4, lay5, lay6]
        refine wpAnyH_ready (rs := [11]) (by kernel_rfl) (by simp) ?_
        refine AllReadyH.cons rfl (fun K hK => ?_) AllReadyH.nil
        have y0 := hz.cell 0
        have yf0 := hz.frozen 0
        have y1 := hz.cell 1
        have yf1 := hz.frozen 1
        have y2 := hz.cell 2
        have yf2 := hz.frozen 2
        have y3 := hz.cell 3
        have yf3 := hz.frozen 3
        have y4 := hz.cell 4
        have yf4 := hz.frozen 4
        have y5 := hz.cell 5
        have yf5 := hz.frozen 5
        obtain ⟨u18, e18, hz5, D18, hOs, hBl⟩ := boxSt u17 28 (.int .i64 t0) (.int .i64 t1) (.int .i64 t2) (.int .i64 t3) (.int .i64 t4) (.slice A3 B3.length C3) hz D17 hzb
        have hb4 := (hOs _ _ _ _ hb3 hgz hgz).lower D16.size D16.size
        go_simp
        rw [← e18]
        clear y0 yf0 y1 yf1 y2 yf2 y3 yf3 y4 yf4 y5 yf5
        refine hK.out _ _ ?_ (fun hHeld => ?_)
        · exact ⟨(hKp.below D18 hKp.lt).cell 0, (hKp.below D18 hKp.lt).cell 1, (hKp.below D18 hKp.lt).cell 2, (hKp.below D18 hKp.lt).cell 3⟩
        clear hK K
        try simp only [Act.put, lay1, lay2, lay3, lay4, lay5, lay6]
        refine wpAnyH_take (i := 12) (v := ?b19_v12) rfl (by kernel_rfl) (by kernel_rfl) (by kernel_rfl) (fun _ _ _ h => h) (Or.inl ⟨by kernel_rfl, ?b19_hy12⟩) (by assumption) ?b19_rest12
        case b19_hy12 => (intro w hSw; (try dsimp only at hSw); go_simp; try (with_reducible rfl))
        try simp only [Act.put, lay1, lay2, lay3, lay4, lay5, lay6]
        try dsimp only
        refine wpAnyH_done (by kernel_rfl) ?_ _
        refine NoPanic.normal ?_
        go_wp2_with fail
        go_meet
        exact ⟨gz, A3, C3, rfl, rfl, hz5, hb4, D18, hzb⟩
    · obtain ⟨u19, e19, hz, d19⟩ := box1 wd 28 #[.int .i64 0, .int .i64 0, .int .i64 0, .int .i64 0, .int .i64 0, .slice none 0 0]
      obtain ⟨gz, egz⟩ : ∃ y, y = wd.heap.size := ⟨_, rfl⟩
      have hzb : V2.heap.size ≤ gz := by rw [egz]; exact bd.size
      have D19 := bstep bd d19
      rw [← egz] at hz
      have EE := Lib.hid (And.intro e19 egz)
      clear e19 egz
      go_simp
      rw [← EE.out.1, ← EE.out.2]
      clear EE
      refine hK.out _ _ ?_ (fun hHeld => ?_)
      · exact ⟨(hKp.below D19 hKp.lt).cell 0, (hKp.below D19 hKp.lt).cell 1, (hKp.below D19 hKp.lt).cell 2, (hKp.below D19 hKp.lt).cell 3⟩
      clear hK K
      try simp only [Act.put, lay1, lay2, lay3, lay4, lay5, lay6]
      refine wpAnyH_ready (rs := [1]) (by kernel_rfl) (by simp) ?_
      refine AllReadyH.cons rfl (fun K hK => ?_) AllReadyH.nil
      obtain ⟨u20, e20, own, d20⟩ := litJ u19
      obtain ⟨g20, eg20⟩ : ∃ y, y = u19.heap.size := ⟨_, rfl⟩
      have hbase : g20 ≤ u20.heap.size := by rw [eg20]; exact d20.size
      have D20 := bstep D19 d20
      have bN : V2.heap.size ≤ g20 := by rw [eg20]; exact D19.size
      replace hz := hz.below d20 hz.lt
      have EE := Lib.hid (And.intro e20 eg20)
      rw [← eg20] at own d20
      clear e20 eg20
      go_simp
      rw [← EE.out.1, ← EE.out.2]
      clear EE
      refine hK.out _ _ ?_ (fun hHeld => ?_)
      · exact ⟨(hKp.below D20 hKp.lt).cell 0, (hKp.below D20 hKp.lt).cell 1, (hKp.below D20 hKp.lt).cell 2, (hKp.below D20 hKp.lt).cell 3⟩
      clear hK K
      try simp only [Act.put, lay1, lay2, lay3, lay4, lay5, lay6]
      refine wpAnyH_ready (rs := [3]) (by kernel_rfl) (by simp) ?_
      refine AllReadyH.cons rfl (fun K hK => ?_) AllReadyH.nil
      have sv := ha.below D20
      obtain ⟨A8, C8, e8, _, _, hR8⟩ := sv
      obtain ⟨rfl, _, rfl⟩ := Value.slice.inj e8
      refine step_append_any _ rfl (.tmp 61) (.tmp 62) _ rfl g20 2 i0 _ 1 8 Try.underlying24 hi0 hy0_ hy1_ hy2_ rfl (by decide) _ _ _ rfl own u20.heap.size _ a.length _ (is a) rfl hR8 (is_one _) (len63 ha48) (len47 ha48) hbase ?_
      intro v21 u21 own21 hgr hat
      have d21 : Below g20 u20 u21 := (Below.refl g20 u20).grown hgr hbase (fun j e => (own.lt j e).1)
      have D21 := D20.trans (d21.mono bN)
      rw [← is_append] at own21
      replace hz := hz.grown hgr (fun e => own_typeB own hz (by decide) e.symm)
      replace own := own21
      replace hbase : g20 ≤ u21.heap.size := Nat.le_trans hbase d21.size
      clear own21 hgr hat
      refine hK.out _ _ ?_ (fun hHeld => ?_)
      · exact ⟨(hKp.below D21 hKp.lt).cell 0, (hKp.below D21 hKp.lt).cell 1, (hKp.below D21 hKp.lt).cell 2, (hKp.below D21 hKp.lt).cell 3⟩
      clear hK K
      try simp only [Act.put, lay1, lay2, lay3, lay4, lay5, lay6]
      refine wpAnyH_ready (rs := [5]) (by kernel_rfl) (by simp) ?_
      refine AllReadyH.cons rfl (fun K hK => ?_) AllReadyH.nil
      have sv := hb.below D21
      obtain ⟨A8, C8, e8, _, _, hR8⟩ := sv
      obtain ⟨rfl, _, rfl⟩ := Value.slice.inj e8
      refine step_append_any _ rfl (.tmp 63) (.tmp 64) _ rfl g20 2 i0 _ 1 8 Try.underlying24 hi0 hy0_ hy1_ hy2_ rfl (by decide) _ _ _ rfl own u21.heap.size _ b.length _ (is b) rfl hR8 (is_one _) (len63 hb48) (len47 hb48) hbase ?_
      intro v22 u22 own22 hgr hat
      have d22 : Below g20 u21 u22 := (Below.refl g20 u21).grown hgr hbase (fun j e => (own.lt j e).1)
      have D22 := D21.trans (d22.mono bN)
      rw [← is_append] at own22
      replace hz := hz.grown hgr (fun e => own_typeB own hz (by decide) e.symm)
      replace own := own22
      replace hbase : g20 ≤ u22.heap.size := Nat.le_trans hbase d22.size
      clear own22 hgr hat
      refine hK.out _ _ ?_ (fun hHeld => ?_)
      · exact ⟨(hKp.below D22 hKp.lt).cell 0, (hKp.below D22 hKp.lt).cell 1, (hKp.below D22 hKp.lt).cell 2, (hKp.below D22 hKp.lt).cell 3⟩
      clear hK K
      try simp only [Act.put, lay1, lay2, lay3, lay4, lay5, lay6]
      refine wpAnyH_ready (rs := [6]) (by kernel_rfl) (by simp) ?_
      refine AllReadyH.cons rfl (fun K hK => ?_) AllReadyH.nil
      have hown' := own
      simp only [List.nil_append, Nat.zero_add] at hown'
      have hI' : IsI u22 v22 (a ++ b) := IsI.of_own (by rw [List.length_append]; exact hown')
      go_simp
      refine (hO3 _ _ hI').mono ?_
      rintro e u23 ⟨y3, rfl, hb3, d23⟩
      have D23 := bstep D22 d23
      have hgz : gz < u22.heap.size := hz.lt
      replace hz := hz.below d23 hz.lt
      obtain ⟨A3, C3, rfl, _, _⟩ := id hb3.is.len
      clear hown' hI' own hbase bN
      go_wp2_with fail
      refine hK.out _ _ ?_ (fun hHeld => ?_)
      · exact ⟨(hKp.below D23 hKp.lt).cell 0, (hKp.below D23 hKp.lt).cell 1, (hKp.below D23 hKp.lt).cell 2, (hKp.below D23 hKp.lt).cell 3⟩
      clear hK K
      try simp only [Act.put, lay1, lay2, lay3, lay4, lay5, lay6]
      refine wpAnyH_take (i := 7) (v := ?b20_v7) rfl (by kernel_rfl) (by kernel_rfl) (by kernel_rfl) (fun _ _ _ h => h) (Or.inl ⟨by kernel_rfl, ?b20_hy7⟩) (by assumption) ?b20_rest7
      case b20_hy7 => (intro w hSw; (try dsimp only at hSw); go_simp; try (with_reducible rfl))
      try simp only [Act.put, lay1, lay2, lay3, lay4, lay5, lay6]
      refine wpAnyH_take (i := 8) (v := ?b21_v8) rfl (by kernel_rfl) (by kernel_rfl) (by kernel_rfl) (fun _ _ _ h => h) (Or.inl ⟨by kernel_rfl, ?b21_hy8⟩) (by assumption) ?b21_rest8
      case b21_hy8 => (intro w hSw; (try dsimp only at hSw); go_simp; try (with_reducible rfl))
      try simp only [Act.put, lay1, lay2, lay3, lay4, lay5, lay6]
      refine wpAnyH_take (i := 9) (v := ?b22_v9) rfl (by kernel_rfl) (by kernel_rfl) (by kernel_rfl) (fun _ _ _ h => h) (Or.inl ⟨by kernel_rfl, ?b22_hy9⟩) (by assumption) ?b22_rest9
      case b22_hy9 => (intro w hSw; (try dsimp only at hSw); go_simp; try (with_reducible rfl))
      try simp only [Act.put, lay1, lay2, lay3, lay4, lay5, lay6]
      refine wpAnyH_ready (rs := [11]) (by kernel_rfl) (by simp) ?_
      refine AllReadyH.cons rfl (fun K hK => ?_) AllReadyH.nil
      have y0 := hz.cell 0
      have yf0 := hz.frozen 0
      have y1 := hz.cell 1
      have yf1 := hz.frozen 1
      have y2 := hz.cell 2
      have yf2 := hz.frozen 2
      have y3 := hz.cell 3
      have yf3 := hz.frozen 3
      have y4 := hz.cell 4
      have yf4 := hz.frozen 4
      have y5 := hz.cell 5
      have yf5 := hz.frozen 5
      obtain ⟨u24, e24, hz5, D24, hOs, hBl⟩ := boxSt u23 28 (.int .i64 t0) (.int .i64 t1) (.int .i64 t2) (.int .i64 t3) (.int .i64 t4) (.slice A3 B3.length C3) hz D23 hzb
      have hb4 := (hOs _ _ _ _ hb3 hgz hgz).lower D22.size D22.size
      go_simp
      rw [← e24]
      clear y0 yf0 y1 yf1 y2 yf2 y3 yf3 y4 yf4 y5 yf5
      refine hK.out _ _ ?_ (fun hHeld => ?_)
      · exact ⟨(hKp.below D24 hKp.lt).cell 0, (hKp.below D24 hKp.lt).cell 1, (hKp.below D24 hKp.lt).cell 2, (hKp.below D24 hKp.lt).cell 3⟩
      clear hK K
      try simp only [Act.put, lay1, lay2, lay3, lay4, lay5, lay6]
      refine wpAnyH_take (i := 12) (v := ?b23_v12) rfl (by kernel_rfl) (by kernel_rfl) (by kernel_rfl) (fun _ _ _ h => h) (Or.inl ⟨by kernel_rfl, ?b23_hy12⟩) (by assumption) ?b23_rest12
      case b23_hy12 => (intro w hSw; (try dsimp only at hSw); go_simp; try (with_reducible rfl))
      try simp only [Act.put, lay1, lay2, lay3, lay4, lay5, lay6]
      try dsimp only
      refine wpAnyH_done (by kernel_rfl) ?_ _
      refine NoPanic.normal ?_
      go_wp2_with fail
      go_meet
      exact ⟨gz, A3, C3, rfl, rfl, hz5, hb4, D24, hzb⟩
  obtain ⟨Zb, A3, C3, rfl, rfl, hZ, hb3, bz, hzb⟩ := hcut
  have hnZ1 : Zb ≠ X1 := by omega
  replace hKp := hKp.below bz hKp.lt
  replace he1 := he1.below bz
  replace hS1 := hS1.below bz hS1.lt
  replace he2 := he2.below bz
  replace hS2 := hS2.below bz hS2.lt
  replace hB := hB.trans (bz.mono hB.size)
  clear c8_hKp_0 c8_hKp_1 c8_hKp_2 c8_hKp_3 c8_hS1_0 c8_hS1_1 c8_hS1_2 c8_hS1_3 c8_hS1_4 c8_hS1_5 c8_hS2_0 c8_hS2_1 c8_hS2_2 c8_hS2_3 c8_hS2_4 c8_hS2_5
  obtain ⟨c9_hKp_0, c9_hKp_1, c9_hKp_2, c9_hKp_3⟩ := hKp.quad
  obtain ⟨c9_hS1_0, c9_hS1_1, c9_hS1_2, c9_hS1_3, c9_hS1_4, c9_hS1_5⟩ := hS1.cells6
  obtain ⟨c9_hS2_0, c9_hS2_1, c9_hS2_2, c9_hS2_3, c9_hS2_4, c9_hS2_5⟩ := hS2.cells6
  clear c9_hKp_0 c9_hKp_1 c9_hKp_2 c9_hKp_3 c9_hS1_0 c9_hS1_1 c9_hS1_2 c9_hS1_3 c9_hS1_4 c9_hS1_5 c9_hS2_0 c9_hS2_1 c9_hS2_2 c9_hS2_3 c9_hS2_4 c9_hS2_5
  obtain ⟨c10_hKp_0, c10_hKp_1, c10_hKp_2, c10_hKp_3⟩ := hKp.quad
  obtain ⟨c10_hS1_0, c10_hS1_1, c10_hS1_2, c10_hS1_3, c10_hS1_4, c10_hS1_5⟩ := hS1.cells6
  obtain ⟨c10_hS2_0, c10_hS2_1, c10_hS2_2, c10_hS2_3, c10_hS2_4, c10_hS2_5⟩ := hS2.cells6
  obtain ⟨c10_hZ_0, c10_hZ_1, c10_hZ_2, c10_hZ_3, c10_hZ_4, c10_hZ_5⟩ := hZ.cells6
  rcases HJ.out with ⟨rfl, rfl, rfl, hp, hr, ht⟩ | ⟨rfl, rfl, rfl⟩ | ⟨rfl, rfl, rfl⟩ | ⟨rfl, rfl, rfl⟩
  · simp only [Prod.mk.injEq] at hp hr ht
    obtain ⟨h0, h1, h2, h3, h4, _⟩ := hp
    obtain ⟨_, _, _, _, i4, _⟩ := hr
    obtain ⟨l0, l1, l2, l3, l4, l5⟩ := ht
    replace h0 := h0.symm
    replace h2 := h2.symm
    replace h3 := h3.symm
    replace l0 := l0.symm
    replace l2 := l2.symm
    replace l3 := l3.symm
    subst h0 h1 h2 h3 h4 i4 l0 l1 l2 l3 l4
    have L5 := Lib.hid l5
    clear l5
    clear c10_hKp_0 c10_hKp_1 c10_hKp_2 c10_hKp_3 c10_hS1_0 c10_hS1_1 c10_hS1_2 c10_hS1_3 c10_hS1_4 c10_hS1_5 c10_hS2_0 c10_hS2_1 c10_hS2_2 c10_hS2_3 c10_hS2_4 c10_hS2_5 c10_hZ_0 c10_hZ_1 c10_hZ_2 c10_hZ_3 c10_hZ_4 c10_hZ_5
    obtain ⟨c11_hKp_0, c11_hKp_1, c11_hKp_2, c11_hKp_3⟩ := hKp.quad
    obtain ⟨c11_hS1_0, c11_hS1_1, c11_hS1_2, c11_hS1_3, c11_hS1_4, c11_hS1_5⟩ := hS1.cells6
    obtain ⟨c11_hS2_0, c11_hS2_1, c11_hS2_2, c11_hS2_3, c11_hS2_4, c11_hS2_5⟩ := hS2.cells6
    obtain ⟨c11_hZ_0, c11_hZ_1, c11_hZ_2, c11_hZ_3, c11_hZ_4, c11_hZ_5⟩ := hZ.cells6
    go_upto_region 8 with fail
    refine wp_region_noPanic ?_
    refine wp_region_held_drew (S := fun w' => w'.cell? ⟨X2, 5, none⟩ = some (.slice A2_ B2.length C2_)) (by kernel_rfl) ?_ (fun hHeld => ?_)
    · exact (hS2.below (bdrew _) hS2.lt).cell 5
    generalize hwd : wc.drew = wd at hHeld ⊢
    have bd : Below wc.heap.size wc wd := by rw [← hwd]; exact bdrew _
    clear hwd
    refine wpAnyH_take (i := 1) (v := ?b24_v1) rfl (by kernel_rfl) (by kernel_rfl) (by kernel_rfl) (fun _ _ _ h => h) (Or.inl ⟨by kernel_rfl, ?b24_hy1⟩) (by assumption) ?b24_rest1
    case b24_hy1 => (intro w hSw; (try dsimp only at hSw); go_simp; try (with_reducible rfl))
    try simp only [Act.put, lay1, lay2, lay3, lay4, lay5, lay6]
    refine wpAnyH_take (i := 4) (v := ?b25_v4) rfl (by kernel_rfl) (by kernel_rfl) (by kernel_rfl) (fun _ _ _ h => h) (Or.inl ⟨by kernel_rfl, ?b25_hy4⟩) (by assumption) ?b25_rest4
    case b25_hy4 => (intro w hSw; (try dsimp only at hSw); go_simp; try (with_reducible rfl))
    try simp only [Act.put, lay1, lay2, lay3, lay4, lay5, lay6]
    refine wpAnyH_take (i := 5) (v := ?b26_v5) rfl (by kernel_rfl) (by kernel_rfl) (by kernel_rfl) (fun _ _ _ h => h) (Or.inl ⟨by kernel_rfl, ?b26_hy5⟩) (by assumption) ?b26_rest5
    case b26_hy5 => (intro w hSw; (try dsimp only at hSw); go_simp; try (with_reducible rfl))
    try simp only [Act.put, lay1, lay2, lay3, lay4, lay5, lay6]
    refine wpAnyH_ready (rs := [0, 2]) (by kernel_rfl) (by simp) ?_
    refine AllReadyH.cons rfl (fun K hK => ?_) (AllReadyH.cons rfl (fun K hK => ?_) AllReadyH.nil)
    · obtain ⟨q1, eq1, ownk, dq1⟩ := litK wd
      obtain ⟨gk, egk⟩ : ∃ y, y = wd.heap.size := ⟨_, rfl⟩
      have hbk : gk ≤ q1.heap.size := by rw [egk]; exact dq1.size
      have hck : wc.heap.size ≤ gk := by rw [egk]; exact bd.size
      have Dq1 := bstep bd dq1
      have hX1g : X1 < gk := Nat.lt_of_lt_of_le hS1.lt hck
      have of0 : OwnOff q1 gk X1 (.slice (some ⟨gk, 0, none⟩) 0 0) [] := ⟨fun _ h => (nomatch h), fun _ h => (nomatch h), by rw [egk]; exact ownk⟩
      rw [← egk] at dq1
      have EK := Lib.hid (And.intro eq1 egk)
      clear eq1 egk ownk
      go_simp
      rw [← EK.out.1, ← EK.out.2]
      clear EK
      refine hK.out _ _ ?_ (fun hHeld => ?_)
      · exact (hS2.below Dq1 hS2.lt).cell 5
      clear hK K
      try simp only [Act.put, lay1, lay2, lay3, lay4, lay5, lay6]
      refine wpAnyH_ready (rs := [2]) (by kernel_rfl) (by simp) ?_
      refine AllReadyH.cons rfl (fun K hK => ?_) AllReadyH.nil
      have y52 := (hS1.below Dq1 hS1.lt).cell 5
      go_simp
      clear y52
      refine hK.out _ _ ?_ (fun hHeld => ?_)
      · exact (hS2.below Dq1 hS2.lt).cell 5
      clear hK K
      try simp only [Act.put, lay1, lay2, lay3, lay4, lay5, lay6]
      refine wpAnyH_ready (rs := [3]) (by kernel_rfl) (by simp) ?_
      refine AllReadyH.cons rfl (fun K hK => ?_) AllReadyH.nil
      have hq9 := he1.below Dq1
      obtain ⟨A8, C8, e8, _, _, ok8, rd8⟩ := hq9
      obtain ⟨rfl, hl8, rfl⟩ := Value.slice.inj e8
      have aw8 := away_high he1.ok hck (v := (.slice (some ⟨gk, 0, none⟩) 0 0)) (fun g e => (of0.2.2.lt g e).1)
      refine step_append_any _ rfl (.tmp 80) (.tmp 82) _ rfl gk 34 z0 _ 4 64 Try.underlying26 hz0_ hz1_ hz2_ hz3_ rfl (by omega) _ _ _ rfl of0.2.2 q1.heap.size _ B1.length _ (flatB es1) rfl (by rw [hl8]; exact rd8) (flatB_one es1 ok8) (by unfold maxLen; simp only [List.nil_append, List.length_nil]; omega) (by simp only [List.nil_append, List.length_nil]; omega) hbk ?_
      intro v2 q2 own2 hgr hat
      have of2 := of0.push ok8 (fun e he => ⟨aw8 e he, hoffX e he⟩) (by rw [hl8]) own2 hgr hat
      have dq2 : Below gk q1 q2 := (Below.refl gk q1).grown hgr hbk (fun j e => (of0.2.2.lt j e).1)
      have Dq2 := Dq1.trans (dq2.mono hck)
      replace hbk : gk ≤ q2.heap.size := Nat.le_trans hbk dq2.size
      clear own2 hgr hat aw8 ok8 rd8
      refine hK.out _ _ ?_ (fun hHeld => ?_)
      · exact (hS2.below Dq2 hS2.lt).cell 5
      clear hK K
      try simp only [Act.put, lay1, lay2, lay3, lay4, lay5, lay6]
      refine wpAnyH_ready (rs := [6]) (by kernel_rfl) (by simp) ?_
      refine AllReadyH.cons rfl (fun K hK => ?_) AllReadyH.nil
      have hq9 := he2.below Dq2
      obtain ⟨A8, C8, e8, _, _, ok8, rd8⟩ := hq9
      obtain ⟨rfl, hl8, rfl⟩ := Value.slice.inj e8
      have aw8 := away_high he2.ok hck (v := v2) (fun g e => (of2.2.2.lt g e).1)
      refine step_append_any _ rfl (.tmp 83) (.tmp 85) _ rfl gk 34 z0 _ 4 64 Try.underlying26 hz0_ hz1_ hz2_ hz3_ rfl (by omega) _ _ _ rfl of2.2.2 q2.heap.size _ B2.length _ (flatB es2) rfl (by rw [hl8]; exact rd8) (flatB_one es2 ok8) (by unfold maxLen; simp only [List.nil_append, List.length_nil]; omega) (by simp only [List.nil_append, List.length_nil]; omega) hbk ?_
      intro v3 q3 own3 hgr hat
      have of3 := of2.push ok8 (fun e he => ⟨aw8 e he, hoffY e he⟩) (by rw [hl8]) own3 hgr hat
      have dq3 : Below gk q2 q3 := (Below.refl gk q2).grown hgr hbk (fun j e => (of2.2.2.lt j e).1)
      have Dq3 := Dq2.trans (dq3.mono hck)
      replace hbk : gk ≤ q3.heap.size := Nat.le_trans hbk dq3.size
      clear own3 hgr hat aw8 ok8 rd8
      refine hK.out _ _ ?_ (fun hHeld => ?_)
      · exact (hS2.below Dq3 hS2.lt).cell 5
      clear hK K
      try simp only [Act.put, lay1, lay2, lay3, lay4, lay5, lay6]
      obtain ⟨es, hes⟩ : ∃ y, y = [] ++ es1 ++ es2 := ⟨_, rfl⟩
      rw [← hes] at of3
      have hm3 : es.map (·.1) = B3 := by rw [hes, List.nil_append, List.map_append, hm1, hm2]; exact L5.out.symm
      have HES := Lib.hid hes
      clear hes
      obtain ⟨A9, C9, rfl, _, _⟩ := own4_form of3.2.2
      have hS1q := hS1.below Dq3 hS1.lt
      have y5 := hS1q.cell 5
      have yf5 := hS1q.frozen 5
      obtain ⟨q4, eq4⟩ : ∃ y, y = q3.setCell ⟨X1, 5, none⟩ (.slice A9 es.length C9) := ⟨_, rfl⟩
      have of4 : OwnOff q4 gk X1 (.slice A9 es.length C9) es := by rw [eq4]; exact of3.set hX1g _
      have hS14 : Blk q4 X1 28 #[.int .i64 k, .int .i64 Z, .int .i64 m, .int .i64 o, .int .i64 a.length, .slice A9 es.length C9] := by rw [eq4]; simpa using hS1q.set_ 5 (.slice A9 es.length C9)
      have hS24 := (hS2.below Dq3 hS2.lt).far (p := ⟨X1, 5, none⟩) (Ne.symm hn12) (.slice A9 es.length C9)
      have hZ4 := (hZ.below Dq3 hZ.lt).far (p := ⟨X1, 5, none⟩) hnZ1 (.slice A9 es.length C9)
      rw [← eq4] at hS24 hZ4
      have hb34 : OwnBs q4 V2.heap.size V2.heap.size (.slice A3 B3.length C3) B3 := by rw [eq4]; exact (hb3.below Dq3).set hX1V hX1V _
      have hB4 : Below w.heap.size w q4 := by rw [eq4]; exact bset (hB.trans (Dq3.mono hB.size)) hX1w _
      refine wpAnyH_take (i := 7) (v := ?b27_v7) rfl (by kernel_rfl) (by kernel_rfl) (by kernel_rfl) (fun _ _ _ h => h) (Or.inl ⟨by kernel_rfl, ?b27_hy7⟩) (by assumption) ?b27_rest7
      case b27_hy7 => (intro w hSw; (try dsimp only at hSw); go_simp; try (with_reducible rfl))
      try simp only [Act.put, lay1, lay2, lay3, lay4, lay5, lay6]
      refine wpAnyH_ready (rs := [8]) (by kernel_rfl) (by simp) ?_
      refine AllReadyH.cons rfl (fun K hK => ?_) AllReadyH.nil
      go_simp
      rw [← eq4]
      refine hK.out _ _ ?_ (fun hHeld => ?_)
      · exact hS24.cell 5
      clear hK K
      try simp only [Act.put, lay1, lay2, lay3, lay4, lay5, lay6]
      clear eq4 y5 yf5
      refine wpAnyH_done (by kernel_rfl) ?_ _
      refine NoPanic.normal ?_
      replace hS1 := hS14
      replace hS2 := hS24
      replace hZ := hZ4
      replace hb3 := hb34
      replace hB := hB4
      have of9 := of4
      clear hS14 hS24 hZ4 hb34 hB4 of4 hS1q of0 of2 of3 c11_hKp_0 c11_hKp_1 c11_hKp_2 c11_hKp_3 c11_hS1_0 c11_hS1_1 c11_hS1_2 c11_hS1_3 c11_hS1_4 c11_hS1_5 c11_hS2_0 c11_hS2_1 c11_hS2_2 c11_hS2_3 c11_hS2_4 c11_hS2_5 c11_hZ_0 c11_hZ_1 c11_hZ_2 c11_hZ_3 c11_hZ_4 c11_hZ_5
      obtain ⟨n_1_0, n_1_1, n_1_2, n_1_3, n_1_4, n_1_5⟩ := hS1.cells6
      obtain ⟨n_2_0, n_2_1, n_2_2, n_2_3, n_2_4, n_2_5⟩ := hS2.cells6
      obtain ⟨n_Z_0, n_Z_1, n_Z_2, n_Z_3, n_Z_4, n_Z_5⟩ := hZ.cells6
      have yf4 := hS1.frozen 4
      obtain ⟨q5, eq5⟩ : ∃ y, y = q4.setCell ⟨X1, 4, none⟩ (.int .i64 ((a.length : Int) + (b.length : Int))) := ⟨_, rfl⟩
      have hU : IsBs q5 (.slice A9 es.length C9) B3 := by rw [eq5, ← hm3]; exact (of9.set hX1g _).is
      have hV : IsBs q5 (.slice A3 B3.length C3) B3 := by rw [eq5]; exact (hb3.set hX1V hX1V _).is
      have hS15 : Blk q5 X1 28 #[.int .i64 k, .int .i64 Z, .int .i64 m, .int .i64 o, .int .i64 ((a.length : Int) + (b.length : Int)), .slice A9 es.length C9] := by rw [eq5]; simpa using hS1.set_ 4 (.int .i64 ((a.length : Int) + (b.length : Int)))
      have hZ5 := hZ.far (p := ⟨X1, 4, none⟩) hnZ1 (.int .i64 ((a.length : Int) + (b.length : Int)))
      rw [← eq5] at hZ5
      have hB5 : Below w.heap.size w q5 := by rw [eq5]; exact bset hB hX1w _
      have E5 := Lib.hid eq5
      clear eq5
      go_wp2_with fail
      rw [← E5.out]
      refine (hL _).mono ?_
      rintro e w9 ⟨rfl, b9⟩
      replace hS1 := hS15.below b9 hS15.lt
      replace hZ := hZ5.below b9 hZ5.lt
      replace hU := hU.below b9
      replace hV := hV.below b9
      replace hB := hB5.trans (b9.mono hB5.size)
      clear yf4 n_1_0 n_1_1 n_1_2 n_1_3 n_1_4 n_1_5 n_2_0 n_2_1 n_2_2 n_2_3 n_2_4 n_2_5 n_Z_0 n_Z_1 n_Z_2 n_Z_3 n_Z_4 n_Z_5
      obtain ⟨x0, x1, x2, x3, x4, x5⟩ := hS1.cells6
      obtain ⟨x6, x7, x8, x9, x10, x11⟩ := hZ.cells6
      go_wp2_with fail
      refine (rsame14_any _ _ (k, (Z : Int), m, o, (a.length : Int) + (b.length : Int), B3) (k, (Z : Int), m, o, (a.length : Int) + (b.length : Int), B3) _ ⟨_, rfl, hU⟩ ⟨_, rfl, hV⟩).mono ?_
      rintro e w10 ⟨rfl, b10⟩
      rw [eqS_refl]
      go_wp2
      go_ret
      exact ⟨rfl, hB.trans (b10.mono hB.size)⟩
    · have y52 := (hS1.below bd hS1.lt).cell 5
      go_simp
      clear y52
      refine hK.out _ _ ?_ (fun hHeld => ?_)
      · exact (hS2.below bd hS2.lt).cell 5
      clear hK K
      try simp only [Act.put, lay1, lay2, lay3, lay4, lay5, lay6]
      refine wpAnyH_ready (rs := [0]) (by kernel_rfl) (by simp) ?_
      refine AllReadyH.cons rfl (fun K hK => ?_) AllReadyH.nil
      obtain ⟨q1, eq1, ownk, dq1⟩ := litK wd
      obtain ⟨gk, egk⟩ : ∃ y, y = wd.heap.size := ⟨_, rfl⟩
      have hbk : gk ≤ q1.heap.size := by rw [egk]; exact dq1.size
      have hck : wc.heap.size ≤ gk := by rw [egk]; exact bd.size
      have Dq1 := bstep bd dq1
      have hX1g : X1 < gk := Nat.lt_of_lt_of_le hS1.lt hck
      have of0 : OwnOff q1 gk X1 (.slice (some ⟨gk, 0, none⟩) 0 0) [] := ⟨fun _ h => (nomatch h), fun _ h => (nomatch h), by rw [egk]; exact ownk⟩
      rw [← egk] at dq1
      have EK := Lib.hid (And.intro eq1 egk)
      clear eq1 egk ownk
      go_simp
      rw [← EK.out.1, ← EK.out.2]
      clear EK
      refine hK.out _ _ ?_ (fun hHeld => ?_)
      · exact (hS2.below Dq1 hS2.lt).cell 5
      clear hK K
      try simp only [Act.put, lay1, lay2, lay3, lay4, lay5, lay6]
      refine wpAnyH_ready (rs := [3]) (by kernel_rfl) (by simp) ?_
      refine AllReadyH.cons rfl (fun K hK => ?_) AllReadyH.nil
      have hq9 := he1.below Dq1
      obtain ⟨A8, C8, e8, _, _, ok8, rd8⟩ := hq9
      obtain ⟨rfl, hl8, rfl⟩ := Value.slice.inj e8
      have aw8 := away_high he1.ok hck (v := (.slice (some ⟨gk, 0, none⟩) 0 0)) (fun g e => (of0.2.2.lt g e).1)
      refine step_append_any _ rfl (.tmp 80) (.tmp 82) _ rfl gk 34 z0 _ 4 64 Try.underlying26 hz0_ hz1_ hz2_ hz3_ rfl (by omega) _ _ _ rfl of0.2.2 q1.heap.size _ B1.length _ (flatB es1) rfl (by rw [hl8]; exact rd8) (flatB_one es1 ok8) (by unfold maxLen; simp only [List.nil_append, List.length_nil]; omega) (by simp only [List.nil_append, List.length_nil]; omega) hbk ?_
      intro v2 q2 own2 hgr hat
      have of2 := of0.push ok8 (fun e he => ⟨aw8 e he, hoffX e he⟩) (by rw [hl8]) own2 hgr hat
      have dq2 : Below gk q1 q2 := (Below.refl gk q1).grown hgr hbk (fun j e => (of0.2.2.lt j e).1)
      have Dq2 := Dq1.trans (dq2.mono hck)
      replace hbk : gk ≤ q2.heap.size := Nat.le_trans hbk dq2.size
      clear own2 hgr hat aw8 ok8 rd8
      refine hK.out _ _ ?_ (fun hHeld => ?_)
      · exact (hS2.below Dq2 hS2.lt).cell 5
      clear hK K
      try simp only [Act.put, lay1, lay2, lay3, lay4, lay5, lay6]
      refine wpAnyH_ready (rs := [6]) (by kernel_rfl) (by simp) ?_
      refine AllReadyH.cons rfl (fun K hK => ?_) AllReadyH.nil
      have hq9 := he2.below Dq2
      obtain ⟨A8, C8, e8, _, _, ok8, rd8⟩ := hq9
      obtain ⟨rfl, hl8, rfl⟩ := Value.slice.inj e8
      have aw8 := away_high he2.ok hck (v := v2) (fun g e => (of2.2.2.lt g e).1)
      refine step_append_any _ rfl (.tmp 83) (.tmp 85) _ rfl gk 34 z0 _ 4 64 Try.underlying26 hz0_ hz1_ hz2_ hz3_ rfl (by omega) _ _ _ rfl of2.2.2 q2.heap.size _ B2.length _ (flatB es2) rfl (by rw [hl8]; exact rd8) (flatB_one es2 ok8) (by unfold maxLen; simp only [List.nil_append, List.length_nil]; omega) (by simp only [List.nil_append, List.length_nil]; omega) hbk ?_
      intro v3 q3 own3 hgr hat
      have of3 := of2.push ok8 (fun e he => ⟨aw8 e he, hoffY e he⟩) (by rw [hl8]) own3 hgr hat
      have dq3 : Below gk q2 q3 := (Below.refl gk q2).grown hgr hbk (fun j e => (of2.2.2.lt j e).1)
      have Dq3 := Dq2.trans (dq3.mono hck)
      replace hbk : gk ≤ q3.heap.size := Nat.le_trans hbk dq3.size
      clear own3 hgr hat aw8 ok8 rd8
      refine hK.out _ _ ?_ (fun hHeld => ?_)
      · exact (hS2.below Dq3 hS2.lt).cell 5
      clear hK K
      try simp only [Act.put, lay1, lay2, lay3, lay4, lay5, lay6]
      obtain ⟨es, hes⟩ : ∃ y, y = [] ++ es1 ++ es2 := ⟨_, rfl⟩
      rw [← hes] at of3
      have hm3 : es.map (·.1) = B3 := by rw [hes, List.nil_append, List.map_append, hm1, hm2]; exact L5.out.symm
      have HES := Lib.hid hes
      clear hes
      obtain ⟨A9, C9, rfl, _, _⟩ := own4_form of3.2.2
      have hS1q := hS1.below Dq3 hS1.lt
      have y5 := hS1q.cell 5
      have yf5 := hS1q.frozen 5
      obtain ⟨q4, eq4⟩ : ∃ y, y = q3.setCell ⟨X1, 5, none⟩ (.slice A9 es.length C9) := ⟨_, rfl⟩
      have of4 : OwnOff q4 gk X1 (.slice A9 es.length C9) es := by rw [eq4]; exact of3.set hX1g _
      have hS14 : Blk q4 X1 28 #[.int .i64 k, .int .i64 Z, .int .i64 m, .int .i64 o, .int .i64 a.length, .slice A9 es.length C9] := by rw [eq4]; simpa using hS1q.set_ 5 (.slice A9 es.length C9)
      have hS24 := (hS2.below Dq3 hS2.lt).far (p := ⟨X1, 5, none⟩) (Ne.symm hn12) (.slice A9 es.length C9)
      have hZ4 := (hZ.below Dq3 hZ.lt).far (p := ⟨X1, 5, none⟩) hnZ1 (.slice A9 es.length C9)
      rw [← eq4] at hS24 hZ4
      have hb34 : OwnBs q4 V2.heap.size V2.heap.size (.slice A3 B3.length C3) B3 := by rw [eq4]; exact (hb3.below Dq3).set hX1V hX1V _
      have hB4 : Below w.heap.size w q4 := by rw [eq4]; exact bset (hB.trans (Dq3.mono hB.size)) hX1w _
      refine wpAnyH_take (i := 7) (v := ?b28_v7) rfl (by kernel_rfl) (by kernel_rfl) (by kernel_rfl) (fun _ _ _ h => h) (Or.inl ⟨by kernel_rfl, ?b28_hy7⟩) (by assumption) ?b28_rest7
      case b28_hy7 => (intro w hSw; (try dsimp only at hSw); go_simp; try (with_reducible rfl))
      try simp only [Act.put, lay1, lay2, lay3, lay4, lay5, lay6]
      refine wpAnyH_ready (rs := [8]) (by kernel_rfl) (by simp) ?_
      refine AllReadyH.cons rfl (fun K hK => ?_) AllReadyH.nil
      go_simp
      rw [← eq4]
      refine hK.out _ _ ?_ (fun hHeld => ?_)
      · exact hS24.cell 5
      clear hK K
      try simp only [Act.put, lay1, lay2, lay3, lay4, lay5, lay6]
      clear eq4 y5 yf5
      refine wpAnyH_done (by kernel_rfl) ?_ _
      refine NoPanic.normal ?_
      replace hS1 := hS14
      replace hS2 := hS24
      replace hZ := hZ4
      replace hb3 := hb34
      replace hB := hB4
      have of9 := of4
      clear hS14 hS24 hZ4 hb34 hB4 of4 hS1q of0 of2 of3 c11_hKp_0 c11_hKp_1 c11_hKp_2 c11_hKp_3 c11_hS1_0 c11_hS1_1 c11_hS1_2 c11_hS1_3 c11_hS1_4 c11_hS1_5 c11_hS2_0 c11_hS2_1 c11_hS2_2 c11_hS2_3 c11_hS2_4 c11_hS2_5 c11_hZ_0 c11_hZ_1 c11_hZ_2 c11_hZ_3 c11_hZ_4 c11_hZ_5
      obtain ⟨n_1_0, n_1_1, n_1_2, n_1_3, n_1_4, n_1_5⟩ := hS1.cells6
      obtain ⟨n_2_0, n_2_1, n_2_2, n_2_3, n_2_4, n_2_5⟩ := hS2.cells6
      obtain ⟨n_Z_0, n_Z_1, n_Z_2, n_Z_3, n_Z_4, n_Z_5⟩ := hZ.cells6
      have yf4 := hS1.frozen 4
      obtain ⟨q5, eq5⟩ : ∃ y, y = q4.setCell ⟨X1, 4, none⟩ (.int .i64 ((a.length : Int) + (b.length : Int))) := ⟨_, rfl⟩
      have hU : IsBs q5 (.slice A9 es.length C9) B3 := by rw [eq5, ← hm3]; exact (of9.set hX1g _).is
      have hV : IsBs q5 (.slice A3 B3.length C3) B3 := by rw [eq5]; exact (hb3.set hX1V hX1V _).is
      have hS15 : Blk q5 X1 28 #[.int .i64 k, .int .i64 Z, .int .i64 m, .int .i64 o, .int .i64 ((a.length : Int) + (b.length : Int)), .slice A9 es.length C9] := by rw [eq5]; simpa using hS1.set_ 4 (.int .i64 ((a.length : Int) + (b.length : Int)))
      have hZ5 := hZ.far (p := ⟨X1, 4, none⟩) hnZ1 (.int .i64 ((a.length : Int) + (b.length : Int)))
      rw [← eq5] at hZ5
      have hB5 : Below w.heap.size w q5 := by rw [eq5]; exact bset hB hX1w _
      have E5 := Lib.hid eq5
      clear eq5
      go_wp2_with fail
      rw [← E5.out]
      refine (hL _).mono ?_
      rintro e w9 ⟨rfl, b9⟩
      replace hS1 := hS15.below b9 hS15.lt
      replace hZ := hZ5.below b9 hZ5.lt
      replace hU := hU.below b9
      replace hV := hV.below b9
      replace hB := hB5.trans (b9.mono hB5.size)
      clear yf4 n_1_0 n_1_1 n_1_2 n_1_3 n_1_4 n_1_5 n_2_0 n_2_1 n_2_2 n_2_3 n_2_4 n_2_5 n_Z_0 n_Z_1 n_Z_2 n_Z_3 n_Z_4 n_Z_5
      obtain ⟨x0, x1, x2, x3, x4, x5⟩ := hS1.cells6
      obtain ⟨x6, x7, x8, x9, x10, x11⟩ := hZ.cells6
      go_wp2_with fail
      refine (rsame14_any _ _ (k, (Z : Int), m, o, (a.length : Int) + (b.length : Int), B3) (k, (Z : Int), m, o, (a.length : Int) + (b.length : Int), B3) _ ⟨_, rfl, hU⟩ ⟨_, rfl, hV⟩).mono ?_
      rintro e w10 ⟨rfl, b10⟩
      rw [eqS_refl]
      go_wp2
      go_ret
      exact ⟨rfl, hB.trans (b10.mono hB.size)⟩
  · go_wp2_with fail
    refine (hL _).mono ?_
    rintro e w4 ⟨rfl, b4⟩
    replace hKp := hKp.below b4 hKp.lt
    replace he1 := he1.below b4
    replace hS1 := hS1.below b4 hS1.lt
    replace he2 := he2.below b4
    replace hS2 := hS2.below b4 hS2.lt
    replace hZ := hZ.below b4 hZ.lt
    replace hb3 := hb3.below b4
    replace hB := hB.trans (b4.mono hB.size)
    clear c10_hKp_0 c10_hKp_1 c10_hKp_2 c10_hKp_3 c10_hS1_0 c10_hS1_1 c10_hS1_2 c10_hS1_3 c10_hS1_4 c10_hS1_5 c10_hS2_0 c10_hS2_1 c10_hS2_2 c10_hS2_3 c10_hS2_4 c10_hS2_5 c10_hZ_0 c10_hZ_1 c10_hZ_2 c10_hZ_3 c10_hZ_4 c10_hZ_5
    obtain ⟨c11_hKp_0, c11_hKp_1, c11_hKp_2, c11_hKp_3⟩ := hKp.quad
    obtain ⟨c11_hS1_0, c11_hS1_1, c11_hS1_2, c11_hS1_3, c11_hS1_4, c11_hS1_5⟩ := hS1.cells6
    obtain ⟨c11_hS2_0, c11_hS2_1, c11_hS2_2, c11_hS2_3, c11_hS2_4, c11_hS2_5⟩ := hS2.cells6
    obtain ⟨c11_hZ_0, c11_hZ_1, c11_hZ_2, c11_hZ_3, c11_hZ_4, c11_hZ_5⟩ := hZ.cells6
    go_wp2
    go_ret
    exact ⟨rfl, hB⟩
  · go_wp2_with fail
    refine (hL _).mono ?_
    rintro e w4 ⟨rfl, b4⟩
    replace hKp := hKp.below b4 hKp.lt
    replace he1 := he1.below b4
    replace hS1 := hS1.below b4 hS1.lt
    replace he2 := he2.below b4
    replace hS2 := hS2.below b4 hS2.lt
    replace hZ := hZ.below b4 hZ.lt
    replace hb3 := hb3.below b4
    replace hB := hB.trans (b4.mono hB.size)
    clear c10_hKp_0 c10_hKp_1 c10_hKp_2 c10_hKp_3 c10_hS1_0 c10_hS1_1 c10_hS1_2 c10_hS1_3 c10_hS1_4 c10_hS1_5 c10_hS2_0 c10_hS2_1 c10_hS2_2 c10_hS2_3 c10_hS2_4 c10_hS2_5 c10_hZ_0 c10_hZ_1 c10_hZ_2 c10_hZ_3 c10_hZ_4 c10_hZ_5
    obtain ⟨c11_hKp_0, c11_hKp_1, c11_hKp_2, c11_hKp_3⟩ := hKp.quad
    obtain ⟨c11_hS1_0, c11_hS1_1, c11_hS1_2, c11_hS1_3, c11_hS1_4, c11_hS1_5⟩ := hS1.cells6
    obtain ⟨c11_hS2_0, c11_hS2_1, c11_hS2_2, c11_hS2_3, c11_hS2_4, c11_hS2_5⟩ := hS2.cells6
    obtain ⟨c11_hZ_0, c11_hZ_1, c11_hZ_2, c11_hZ_3, c11_hZ_4, c11_hZ_5⟩ := hZ.cells6
    go_wp2
    go_ret
    exact ⟨rfl, hB⟩
  · go_wp2_with fail
    refine (hL _).mono ?_
    rintro e w4 ⟨rfl, b4⟩
    replace hKp := hKp.below b4 hKp.lt
    replace he1 := he1.below b4
    replace hS1 := hS1.below b4 hS1.lt
    replace he2 := he2.below b4
    replace hS2 := hS2.below b4 hS2.lt
    replace hZ := hZ.below b4 hZ.lt
    replace hb3 := hb3.below b4
    replace hB := hB.trans (b4.mono hB.size)
    clear c10_hKp_0 c10_hKp_1 c10_hKp_2 c10_hKp_3 c10_hS1_0 c10_hS1_1 c10_hS1_2 c10_hS1_3 c10_hS1_4 c10_hS1_5 c10_hS2_0 c10_hS2_1 c10_hS2_2 c10_hS2_3 c10_hS2_4 c10_hS2_5 c10_hZ_0 c10_hZ_1 c10_hZ_2 c10_hZ_3 c10_hZ_4 c10_hZ_5
    obtain ⟨c11_hKp_0, c11_hKp_1, c11_hKp_2, c11_hKp_3⟩ := hKp.quad
    obtain ⟨c11_hS1_0, c11_hS1_1, c11_hS1_2, c11_hS1_3, c11_hS1_4, c11_hS1_5⟩ := hS1.cells6
    obtain ⟨c11_hS2_0, c11_hS2_1, c11_hS2_2, c11_hS2_3, c11_hS2_4, c11_hS2_5⟩ := hS2.cells6
    obtain ⟨c11_hZ_0, c11_hZ_1, c11_hZ_2, c11_hZ_3, c11_hZ_4, c11_hZ_5⟩ := hZ.cells6
    go_wp2
    go_ret
    exact ⟨rfl, hB⟩
theorem TensJoined_all (k z m o : Int) (u v : Value) (a b : List Int) (w : World) (ha : IsI w u a) (hb : IsI w v b) (hia : ∀ x ∈ a, I64 x) (hib : ∀ x ∈ b, I64 x) (hla : a.length ≤ 17592186044416) (hlb : b.length ≤ 17592186044416) :
    Calls Try.prog 5 #[.agg #[.int .i64 k, .int .i64 z, .int .i64 m, .int .i64 o], u, v] w fun e w' => e = .returned (.bool true) ∧ Below w.heap.size w w' := by
  by_cases hn : a.length + b.length ≤ 24
  · by_cases hm : mayB k z m o = true
    · by_cases hmod : a.length % z.toNat = 0
      · by_cases hsa : (a.length : Int) < m
        · exact TensJoined_la k z m o u v a b w ha hb hia hib hla hlb hn hm hmod hsa
        · by_cases hsb : (b.length : Int) < m
          · exact TensJoined_lb k z m o u v a b w ha hb hia hib hla hlb hn hm hmod hsa hsb
          · exact TensJoined_main k z m o u v a b w ha hb hia hib hla hlb hn hm hmod hsa hsb
      · exact TensJoined_mod k z m o u v a b w ha hb hia hib hla hlb hn hm hmod
    · exact TensJoined_may k z m o u v a b w ha hb hia hib hla hlb hn (by simpa using hm)
  · exact TensJoined_many k z m o u v a b w ha hb hia hib hla hlb hn
end Go.Proofs.Ytochabikpaoalaa
