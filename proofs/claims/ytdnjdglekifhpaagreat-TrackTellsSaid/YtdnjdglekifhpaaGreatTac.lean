/- A part of the proof of: Bounds of what is kept, a bound a step on, and a number with what is so near, are as the document says. No conditions: every input. -/
import Derived.BigQuiet
import Derived.Deep.RegionHeld3
import Derived.Deep.DrawnRows
import Derived.Maps.OwnIn
import Derived.Outline
import Derived.Deep.DeepMust
import Derived.Deep.DeepCutAuto
import Derived.Test.YtdnjdglekifhpaaGreatTab
namespace Go.Proofs.YtdnjdglekifhpaaGreat
open Go.RowKit
attribute [local go_sem ↓] Go.wp_at_zero Go.wp_at_succ
theorem boundQ_eq {k s : Int} (hk : k ≠ 4) (k0 : 0 ≤ k) (k3 : k ≤ 3) : boundQ k s = ((s : Rat) * mkRat (gz k) (den k).natAbs + 1) * mkRat 1 2 := by
 unfold boundQ
 rw [if_neg hk, Rat.add_mul, Rat.mul_assoc, Rat.mkRat_mul_mkRat, Int.mul_one, Rat.one_mul]
 congr 3
 have := (den_in k0 k3).1
 omega
set_option maxRecDepth 100000 in
set_option maxHeartbeats 8000000 in
theorem rbound_any (v : Value) (k1 s1 : Int) (cs : List Nat) (wd : List Int) (w : World) (h : IsBk w v k1 s1 cs wd) (hL : LoadB (k1, s1, cs, wd)) :
   Calls Tryz.prog 62 #[v] w fun e w' => ∃ v', e = .returned v' ∧ IsQ w' v' (boundQ k1 s1) ∧ Below w.heap.size w w' := by
 obtain ⟨a, b, rfl, hy, hi⟩ := h
 obtain ⟨A2, C2, rfl, _, _⟩ := id hy.form
 obtain ⟨A3, C3, rfl, _, _⟩ := id hi.form
 clear hy hi
 by_cases hk4 : k1 = 4
 · subst hk4
   have hO0 := fun w => rqof_any 0 (by omega) (by omega) w
   rw [show boundQ 4 s1 = ((0 : Int) : Rat) from rfl]
   generalize ((0 : Int) : Rat) = r0 at *
   clear hL
   obtain ⟨g, hg⟩ : ∃ g, g = w.heap.size := ⟨_, rfl⟩
   obtain ⟨Y0, eY0, hA, bY0⟩ := box1 w 103 #[.int .i64 4, .int .i64 s1, .slice A2 cs.length C2, .slice A3 wd.length C3]
   have zY0 : Y0.heap.size = g + 1 := by rw [eY0, World.size_alloc, ← hg]
   rw [← hg] at hA
   have hB := bY0
   obtain ⟨Y1, eY1, hR, bY1⟩ := box1 Y0 32 #[.bool false, .slice none 0 0, .slice none 0 0]
   have zY1 : Y1.heap.size = g + 1 + 1 := by rw [eY1, World.size_alloc, zY0]
   rw [zY0] at hR
   replace hA := hA.below bY1 hA.lt
   replace hB := hB.trans (bY1.mono hB.size)
   have hgw : w.heap.size ≤ g := by omega
   have EY := Lib.hid (And.intro hg (And.intro eY0 eY1))
   clear hg eY0 zY0 eY1 zY1
   obtain ⟨c0, c1, c2, c3⟩ := hA.q4
   obtain ⟨c4, c5, c6⟩ := hR.q3
   go_enter Tryz.func62, Tryz.ntmps62
   go_wp2_with fail
   rw [← EY.out.2.1, ← EY.out.2.2, ← EY.out.1]
   refine (hO0 _).mono ?_
   rintro e w2 ⟨v4, rfl, q4, b2⟩
   replace hA := hA.below b2 hA.lt
   replace hR := hR.below b2 hR.lt
   replace hB := hB.trans (b2.mono hB.size)
   clear c0 c1 c2 c3 c4 c5 c6
   obtain ⟨c7, c8, c9, c10⟩ := hA.q4
   obtain ⟨c11, c12, c13⟩ := hR.q3
   obtain ⟨s4, A4, L4, C4, D4, M4, E4, rfl, q4⟩ := q4.opn
   obtain ⟨p1, p2, p3⟩ := put3 hR (.bool s4) (.slice A4 L4 C4) (.slice D4 M4 E4) (by simp [noU]) hB (by omega)
   have rc0 : World.cell? _ ⟨g + 1, 0, none⟩ = some (.bool false) := hR.cell 0
   have rf0 := hR.frozen 0
   have rc1 : World.cell? _ ⟨g + 1, 1, none⟩ = some (.slice none 0 0) := hR.cell 1
   have rf1 := hR.frozen 1
   have rc2 : World.cell? _ ⟨g + 1, 2, none⟩ = some (.slice none 0 0) := hR.cell 2
   have rf2 := hR.frozen 2
   have P := Lib.hid (And.intro (q4.kept p2) (And.intro p3 p1.cells3))
   clear p1 p2 p3
   go_wp2_with fail
   obtain ⟨P1, P2, P3, P4, P5⟩ := P.out
   exact bodyPost_ret (v := .agg #[.bool s4, .slice A4 L4 C4, .slice D4 M4 E4]) (by simp [results, Tryz.results62, go_sem, P3, P4, P5]) rfl ⟨_, rfl, P1, P2⟩
 · obtain ⟨k0, k3, s0, s3⟩ := hL.resolve_left hk4
   simp only at k0 k3 s0 s3
   have hOs := fun w => rqof_any s1 (by omega) s3 w
   have hO1 := fun w => rqof_any 1 (by omega) (by omega) w
   have hGa := fun w => rgap_any k1 w
   have hDe := fun w => rden_any k1 w
   obtain ⟨d0, d1⟩ := den_in k0 k3
   obtain ⟨g0, g1⟩ := gz_in k0 k3
   have hOv := fun w => rfrac5_any (gz k1) (den k1) w ⟨by omega, by omega⟩ ⟨by omega, by omega⟩ (by omega)
   have hOh := fun w => rhalf_any 1 w ⟨by omega, by omega⟩
   have sg : BQ (mkRat (gz k1) (den k1).natAbs) 1 := BQ.mk (Sz.u64 (by unfold W64; omega)) (Sz.u64 (by unfold W64; omega)) (by omega)
   have ss : BQ (s1 : Rat) 1 := BQ.int (by unfold W64; omega)
   have hMu := fun u v w hu hv => rqmul_any u v (s1 : Rat) (mkRat (gz k1) (den k1).natAbs) w hu hv (ss.more (by omega)) (sg.more (by omega))
   have sm := ss.mul sg
   have e1 : (((1 : Int) : Rat)) = 1 := rfl
   rw [e1] at hO1
   have s1' : BQ (1 : Rat) 1 := BQ.int (n := 1) (by unfold W64; omega)
   have hAd := fun u v w hu hv => rqadd_any u v ((s1 : Rat) * mkRat (gz k1) (den k1).natAbs) 1 w hu hv (sm.more (by omega)) (s1'.more (by omega))
   have sa := sm.add s1'
   have sh : BQ (mkRat 1 2) 1 := BQ.mk Sz.one (Sz.u64 (by unfold W64; omega)) (by omega)
   have hMh := fun u v w hu hv => rqmul_any u v ((s1 : Rat) * mkRat (gz k1) (den k1).natAbs + 1) (mkRat 1 2) w hu hv (sa.more (by omega)) (sh.more (by omega))
   rw [← boundQ_eq hk4 k0 k3] at hMh
   clear sg ss sm sh s1' sa hL e1
   generalize boundQ k1 s1 = rb at *
   generalize (s1 : Rat) * mkRat (gz k1) (den k1).natAbs + 1 = ra at *
   generalize (s1 : Rat) * mkRat (gz k1) (den k1).natAbs = rm at *
   generalize mkRat (gz k1) (den k1).natAbs = rg at *
   generalize mkRat 1 2 = rh at *
   generalize gz k1 = G at *
   generalize den k1 = D at *
   generalize (s1 : Rat) = rq at *
   generalize (1 : Rat) = r1 at *
   clear k0 k3 s0 s3 d0 d1 g0 g1
   obtain ⟨g, hg⟩ : ∃ g, g = w.heap.size := ⟨_, rfl⟩
   obtain ⟨Y0, eY0, hA, bY0⟩ := box1 w 103 #[.int .i64 k1, .int .i64 s1, .slice A2 cs.length C2, .slice A3 wd.length C3]
   have zY0 : Y0.heap.size = g + 1 := by rw [eY0, World.size_alloc, ← hg]
   rw [← hg] at hA
   have hB := bY0
   obtain ⟨Y1, eY1, hR, bY1⟩ := box1 Y0 32 #[.bool false, .slice none 0 0, .slice none 0 0]
   have zY1 : Y1.heap.size = g + 1 + 1 := by rw [eY1, World.size_alloc, zY0]
   rw [zY0] at hR
   replace hA := hA.below bY1 hA.lt
   replace hB := hB.trans (bY1.mono hB.size)
   have hgw : w.heap.size ≤ g := by omega
   have EY := Lib.hid (And.intro hg (And.intro eY0 eY1))
   clear hg eY0 zY0 eY1 zY1
   obtain ⟨c0, c1, c2, c3⟩ := hA.q4
   obtain ⟨c4, c5, c6⟩ := hR.q3
   go_enter Tryz.func62, Tryz.ntmps62
   go_upto_region 3 with fail
   rw [← EY.out.2.1, ← EY.out.2.2, ← EY.out.1]
   replace hB := hB.drew
   replace hA := hA.drew
   replace hR := hR.drew
   clear c0 c1 c2 c3 c4 c5 c6
   go_cut [3] (fun s3 wx => ∃ X11 s9 A9 L9 C9 D9 M9 E9, s3 = .pointer (some ⟨X11, 0, none⟩) ∧ Blk wx (g + 1) 32 #[.bool false, .slice none 0 0, .slice none 0 0] ∧ IsQ wx (.agg #[.bool s9, .slice A9 L9 C9, .slice D9 M9 E9]) rm ∧ Blk wx X11 32 #[.bool s9, .slice A9 L9 C9, .slice D9 M9 E9] ∧ Below w.heap.size w wx ∧ w.heap.size ≤ X11 ∧ g + 1 ≠ X11)
   case first =>
     refine wp_region_noPanic ?_
     refine wp_region_held_drew (S := fun w' => w'.cell? ⟨g, 0, none⟩ = some (.int .i64 k1) ∧ w'.cell? ⟨g, 1, none⟩ = some (.int .i64 s1) ∧ w'.cell? ⟨g, 2, none⟩ = some (.slice A2 cs.length C2) ∧ w'.cell? ⟨g, 3, none⟩ = some (.slice A3 wd.length C3)) (by kernel_rfl) ?_ (fun hHeld => ?_)
     · exact ⟨hA.cell 0, hA.cell 1, hA.cell 2, hA.cell 3⟩
     obtain ⟨wd3_1, hwd⟩ : ∃ q, q = Y1.drew := ⟨_, rfl⟩
     rw [← hwd] at hB hA hR hHeld ⊢
     clear hwd
     refine tkH 0 rfl (v := ?v1) ?h1 ?r1
     case h1 => intro w hSw; (try dsimp only at hSw); go_simp; try (with_reducible rfl)
     refine tkH 1 rfl (v := ?v2) ?h2 ?r2
     case h2 => intro w hSw; (try dsimp only at hSw); go_simp; try (with_reducible rfl)
     refine tkH 3 rfl (v := ?v3) ?h3 ?r3
     case h3 => intro w hSw; (try dsimp only at hSw); go_simp; try (with_reducible rfl)
     refine tkH 4 rfl (v := ?v4) ?h4 ?r4
     case h4 => intro w hSw; (try dsimp only at hSw); go_simp; try (with_reducible rfl)
     refine tkH 6 rfl (v := ?v5) ?h5 ?r5
     case h5 => intro w hSw; (try dsimp only at hSw); go_simp; try (with_reducible rfl)
     refine tkH 7 rfl (v := ?v6) ?h6 ?r6
     case h6 => intro w hSw; (try dsimp only at hSw); go_simp; try (with_reducible rfl)
     try simp only [Act.put, lay1, lay2, lay3, lay4, lay5, lay6]
     refine wpAnyH_ready (rs := [2, 11]) (by kernel_rfl) (by simp) (AllReadyH.cons rfl (fun K hK => ?_) (AllReadyH.cons rfl (fun K hK => ?_) AllReadyH.nil))
     · go_simp
       refine (hOs _).mono ?_
       rintro e u3_1 ⟨v5, rfl, q5, b3_1⟩
       replace hA := hA.below b3_1 hA.lt
       replace hR := hR.below b3_1 hR.lt
       replace hB := hB.trans (b3_1.mono hB.size)
       obtain ⟨s5, A5, L5, C5, D5, M5, E5, rfl, q5⟩ := q5.opn
       go_wp2_with fail
       refine hK.out _ _ ?_ (fun hHeld => ?_)
       · exact ⟨hA.cell 0, hA.cell 1, hA.cell 2, hA.cell 3⟩
       clear hK K
       try simp only [Act.put, lay1, lay2, lay3, lay4, lay5, lay6]
       refine wpAnyH_ready (rs := [5, 11]) (by kernel_rfl) (by simp) (AllReadyH.cons rfl (fun K hK => ?_) (AllReadyH.cons rfl (fun K hK => ?_) AllReadyH.nil))
       · go_simp
         refine (hGa _).mono ?_
         rintro e u3_2 ⟨rfl, b3_2⟩
         replace hA := hA.below b3_2 hA.lt
         replace hR := hR.below b3_2 hR.lt
         replace q5 := q5.below b3_2
         replace hB := hB.trans (b3_2.mono hB.size)
         go_wp2_with fail
         refine hK.out _ _ ?_ (fun hHeld => ?_)
         · exact ⟨hA.cell 0, hA.cell 1, hA.cell 2, hA.cell 3⟩
         clear hK K
         try simp only [Act.put, lay1, lay2, lay3, lay4, lay5, lay6]
         refine wpAnyH_ready (rs := [8, 11]) (by kernel_rfl) (by simp) (AllReadyH.cons rfl (fun K hK => ?_) (AllReadyH.cons rfl (fun K hK => ?_) AllReadyH.nil))
         · go_simp
           refine (hDe _).mono ?_
           rintro e u3_3 ⟨rfl, rfl⟩
           go_wp2_with fail
           refine hK.out _ _ ?_ (fun hHeld => ?_)
           · exact ⟨hA.cell 0, hA.cell 1, hA.cell 2, hA.cell 3⟩
           clear hK K
           try simp only [Act.put, lay1, lay2, lay3, lay4, lay5, lay6]
           refine wpAnyH_ready (rs := [9, 11]) (by kernel_rfl) (by simp) (AllReadyH.cons rfl (fun K hK => ?_) (AllReadyH.cons rfl (fun K hK => ?_) AllReadyH.nil))
           · go_simp
             refine (hOv _).mono ?_
             rintro e u3_4 ⟨v8, rfl, q8, b3_4⟩
             replace hA := hA.below b3_4 hA.lt
             replace hR := hR.below b3_4 hR.lt
             replace q5 := q5.below b3_4
             replace hB := hB.trans (b3_4.mono hB.size)
             obtain ⟨s8, A8, L8, C8, D8, M8, E8, rfl, q8⟩ := q8.opn
             go_wp2_with fail
             refine hK.out _ _ ?_ (fun hHeld => ?_)
             · exact ⟨hA.cell 0, hA.cell 1, hA.cell 2, hA.cell 3⟩
             clear hK K
             try simp only [Act.put, lay1, lay2, lay3, lay4, lay5, lay6]
             refine wpAnyH_ready (rs := [10, 11]) (by kernel_rfl) (by simp) (AllReadyH.cons rfl (fun K hK => ?_) (AllReadyH.cons rfl (fun K hK => ?_) AllReadyH.nil))
             · go_simp
               refine (hMu _ _ _ q5 q8).mono ?_
               rintro e u3_5 ⟨v9, rfl, q9, b3_5⟩
               replace hA := hA.below b3_5 hA.lt
               replace hR := hR.below b3_5 hR.lt
               replace q5 := q5.below b3_5
               replace q8 := q8.below b3_5
               replace hB := hB.trans (b3_5.mono hB.size)
               obtain ⟨s9, A9, L9, C9, D9, M9, E9, rfl, q9⟩ := q9.opn
               go_wp2_with fail
               refine hK.out _ _ ?_ (fun hHeld => ?_)
               · exact ⟨hA.cell 0, hA.cell 1, hA.cell 2, hA.cell 3⟩
               clear hK K
               try simp only [Act.put, lay1, lay2, lay3, lay4, lay5, lay6]
               refine wpAnyH_ready (rs := [11]) (by kernel_rfl) (by simp) (AllReadyH.cons rfl (fun K hK => ?_) AllReadyH.nil)
               obtain ⟨u3_6, eu, hU, b3_6⟩ := box1 u3_5 32 #[.bool false, .slice none 0 0, .slice none 0 0]
               obtain ⟨X11, en⟩ : ∃ X, X = u3_5.heap.size := ⟨_, rfl⟩
               rw [← en] at hU
               have lX11 : w.heap.size ≤ X11 := by rw [en]; exact hB.size
               have dX11_hA : g ≠ X11 := by have := hA.lt; omega
               have dX11_hR : g + 1 ≠ X11 := by have := hR.lt; omega
               have EUX11 := Lib.hid (And.intro eu en)
               clear eu en
               go_simp
               rw [← EUX11.out.1, ← EUX11.out.2]
               replace hA := hA.below b3_6 hA.lt
               replace hR := hR.below b3_6 hR.lt
               replace q5 := q5.below b3_6
               replace q8 := q8.below b3_6
               replace q9 := q9.below b3_6
               replace hB := hB.trans (b3_6.mono hB.size)
               refine hK.out _ _ ?_ (fun hHeld => ?_)
               · exact ⟨hA.cell 0, hA.cell 1, hA.cell 2, hA.cell 3⟩
               clear hK K
               try simp only [Act.put, lay1, lay2, lay3, lay4, lay5, lay6]
               refine wpAnyH_ready (rs := [12]) (by kernel_rfl) (by simp) (AllReadyH.cons rfl (fun K hK => ?_) AllReadyH.nil)
               obtain ⟨u3_7, eu, hU', kz, kb, kB⟩ := fill3 hU (.bool s9) (.slice A9 L9 C9) (.slice D9 M9 E9) (by simp [noU])
               have x0 : World.cell? _ ⟨X11, 0, none⟩ = some (.bool false) := hU.cell 0
               have x1 : World.cell? _ ⟨X11, 1, none⟩ = some (.slice none 0 0) := hU.cell 1
               have x2 : World.cell? _ ⟨X11, 2, none⟩ = some (.slice none 0 0) := hU.cell 2
               have xf := hU.frozen
               go_simp
               rw [← eu]
               replace hA := kb _ _ _ hA (by omega)
               replace hR := kb _ _ _ hR (by omega)
               replace q5 := q5.filled kz
               replace q8 := q8.filled kz
               replace q9 := q9.filled kz
               replace hB := kB _ _ (by omega) hB
               replace hU := hU'
               clear hU' kz kb kB eu xf x0 x1 x2
               refine hK.out _ _ ?_ (fun hHeld => ?_)
               · exact ⟨hA.cell 0, hA.cell 1, hA.cell 2, hA.cell 3⟩
               clear hK K
               try simp only [Act.put, lay1, lay2, lay3, lay4, lay5, lay6]
               try dsimp only
               try simp only [Act.put, lay1, lay2, lay3, lay4, lay5, lay6]
               refine wpAnyH_done (by kernel_rfl) ?_ _
               refine NoPanic.normal ?_
               go_wp2_with fail
               go_meet
               exact ⟨X11, s9, A9, L9, C9, D9, M9, E9, rfl, hR, q9, hU, hB, lX11, (by assumption)⟩
             · obtain ⟨u3_8, eu, hU, b3_8⟩ := box1 u3_4 32 #[.bool false, .slice none 0 0, .slice none 0 0]
               obtain ⟨X11, en⟩ : ∃ X, X = u3_4.heap.size := ⟨_, rfl⟩
               rw [← en] at hU
               have lX11 : w.heap.size ≤ X11 := by rw [en]; exact hB.size
               have dX11_hA : g ≠ X11 := by have := hA.lt; omega
               have dX11_hR : g + 1 ≠ X11 := by have := hR.lt; omega
               have EUX11 := Lib.hid (And.intro eu en)
               clear eu en
               go_simp
               rw [← EUX11.out.1, ← EUX11.out.2]
               replace hA := hA.below b3_8 hA.lt
               replace hR := hR.below b3_8 hR.lt
               replace q5 := q5.below b3_8
               replace q8 := q8.below b3_8
               replace hB := hB.trans (b3_8.mono hB.size)
               refine hK.out _ _ ?_ (fun hHeld => ?_)
               · exact ⟨hA.cell 0, hA.cell 1, hA.cell 2, hA.cell 3⟩
               clear hK K
               try simp only [Act.put, lay1, lay2, lay3, lay4, lay5, lay6]
               refine wpAnyH_ready (rs := [10]) (by kernel_rfl) (by simp) (AllReadyH.cons rfl (fun K hK => ?_) AllReadyH.nil)
               go_simp
               refine (hMu _ _ _ q5 q8).mono ?_
               rintro e u3_9 ⟨v9, rfl, q9, b3_9⟩
               replace hA := hA.below b3_9 hA.lt
               replace hR := hR.below b3_9 hR.lt
               replace q5 := q5.below b3_9
               replace q8 := q8.below b3_9
               replace hU := hU.below b3_9 hU.lt
               replace hB := hB.trans (b3_9.mono hB.size)
               obtain ⟨s9, A9, L9, C9, D9, M9, E9, rfl, q9⟩ := q9.opn
               go_wp2_with fail
               refine hK.out _ _ ?_ (fun hHeld => ?_)
               · exact ⟨hA.cell 0, hA.cell 1, hA.cell 2, hA.cell 3⟩
               clear hK K
               try simp only [Act.put, lay1, lay2, lay3, lay4, lay5, lay6]
               refine wpAnyH_ready (rs := [12]) (by kernel_rfl) (by simp) (AllReadyH.cons rfl (fun K hK => ?_) AllReadyH.nil)
               obtain ⟨u3_10, eu, hU', kz, kb, kB⟩ := fill3 hU (.bool s9) (.slice A9 L9 C9) (.slice D9 M9 E9) (by simp [noU])
               have x0 : World.cell? _ ⟨X11, 0, none⟩ = some (.bool false) := hU.cell 0
               have x1 : World.cell? _ ⟨X11, 1, none⟩ = some (.slice none 0 0) := hU.cell 1
               have x2 : World.cell? _ ⟨X11, 2, none⟩ = some (.slice none 0 0) := hU.cell 2
               have xf := hU.frozen
               go_simp
               rw [← eu]
               replace hA := kb _ _ _ hA (by omega)
               replace hR := kb _ _ _ hR (by omega)
               replace q5 := q5.filled kz
               replace q8 := q8.filled kz
               replace q9 := q9.filled kz
               replace hB := kB _ _ (by omega) hB
               replace hU := hU'
               clear hU' kz kb kB eu xf x0 x1 x2
               refine hK.out _ _ ?_ (fun hHeld => ?_)
               · exact ⟨hA.cell 0, hA.cell 1, hA.cell 2, hA.cell 3⟩
               clear hK K
               try simp only [Act.put, lay1, lay2, lay3, lay4, lay5, lay6]
               try dsimp only
               try simp only [Act.put, lay1, lay2, lay3, lay4, lay5, lay6]
               refine wpAnyH_done (by kernel_rfl) ?_ _
               refine NoPanic.normal ?_
               go_wp2_with fail
               go_meet
               exact ⟨X11, s9, A9, L9, C9, D9, M9, E9, rfl, hR, q9, hU, hB, lX11, (by assumption)⟩
           · obtain ⟨u3_11, eu, hU, b3_11⟩ := box1 u3_2 32 #[.bool false, .slice none 0 0, .slice none 0 0]
             obtain ⟨X11, en⟩ : ∃ X, X = u3_2.heap.size := ⟨_, rfl⟩
             rw [← en] at hU
             have lX11 : w.heap.size ≤ X11 := by rw [en]; exact hB.size
             have dX11_hA : g ≠ X11 := by have := hA.lt; omega
             have dX11_hR : g + 1 ≠ X11 := by have := hR.lt; omega
             have EUX11 := Lib.hid (And.intro eu en)
             clear eu en
             go_simp
             rw [← EUX11.out.1, ← EUX11.out.2]
             replace hA := hA.below b3_11 hA.lt
             replace hR := hR.below b3_11 hR.lt
             replace q5 := q5.below b3_11
             replace hB := hB.trans (b3_11.mono hB.size)
             refine hK.out _ _ ?_ (fun hHeld => ?_)
             · exact ⟨hA.cell 0, hA.cell 1, hA.cell 2, hA.cell 3⟩
             clear hK K
             try simp only [Act.put, lay1, lay2, lay3, lay4, lay5, lay6]
             refine wpAnyH_ready (rs := [9]) (by kernel_rfl) (by simp) (AllReadyH.cons rfl (fun K hK => ?_) AllReadyH.nil)
             go_simp
             refine (hOv _).mono ?_
             rintro e u3_12 ⟨v8, rfl, q8, b3_12⟩
             replace hA := hA.below b3_12 hA.lt
             replace hR := hR.below b3_12 hR.lt
             replace q5 := q5.below b3_12
             replace hU := hU.below b3_12 hU.lt
             replace hB := hB.trans (b3_12.mono hB.size)
             obtain ⟨s8, A8, L8, C8, D8, M8, E8, rfl, q8⟩ := q8.opn
             go_wp2_with fail
             refine hK.out _ _ ?_ (fun hHeld => ?_)
             · exact ⟨hA.cell 0, hA.cell 1, hA.cell 2, hA.cell 3⟩
             clear hK K
             try simp only [Act.put, lay1, lay2, lay3, lay4, lay5, lay6]
             refine wpAnyH_ready (rs := [10]) (by kernel_rfl) (by simp) (AllReadyH.cons rfl (fun K hK => ?_) AllReadyH.nil)
             go_simp
             refine (hMu _ _ _ q5 q8).mono ?_
             rintro e u3_13 ⟨v9, rfl, q9, b3_13⟩
             replace hA := hA.below b3_13 hA.lt
             replace hR := hR.below b3_13 hR.lt
             replace q5 := q5.below b3_13
             replace hU := hU.below b3_13 hU.lt
             replace q8 := q8.below b3_13
             replace hB := hB.trans (b3_13.mono hB.size)
             obtain ⟨s9, A9, L9, C9, D9, M9, E9, rfl, q9⟩ := q9.opn
             go_wp2_with fail
             refine hK.out _ _ ?_ (fun hHeld => ?_)
             · exact ⟨hA.cell 0, hA.cell 1, hA.cell 2, hA.cell 3⟩
             clear hK K
             try simp only [Act.put, lay1, lay2, lay3, lay4, lay5, lay6]
             refine wpAnyH_ready (rs := [12]) (by kernel_rfl) (by simp) (AllReadyH.cons rfl (fun K hK => ?_) AllReadyH.nil)
             obtain ⟨u3_14, eu, hU', kz, kb, kB⟩ := fill3 hU (.bool s9) (.slice A9 L9 C9) (.slice D9 M9 E9) (by simp [noU])
             have x0 : World.cell? _ ⟨X11, 0, none⟩ = some (.bool false) := hU.cell 0
             have x1 : World.cell? _ ⟨X11, 1, none⟩ = some (.slice none 0 0) := hU.cell 1
             have x2 : World.cell? _ ⟨X11, 2, none⟩ = some (.slice none 0 0) := hU.cell 2
             have xf := hU.frozen
             go_simp
             rw [← eu]
             replace hA := kb _ _ _ hA (by omega)
             replace hR := kb _ _ _ hR (by omega)
             replace q5 := q5.filled kz
             replace q8 := q8.filled kz
             replace q9 := q9.filled kz
             replace hB := kB _ _ (by omega) hB
             replace hU := hU'
             clear hU' kz kb kB eu xf x0 x1 x2
             refine hK.out _ _ ?_ (fun hHeld => ?_)
             · exact ⟨hA.cell 0, hA.cell 1, hA.cell 2, hA.cell 3⟩
             clear hK K
             try simp only [Act.put, lay1, lay2, lay3, lay4, lay5, lay6]
             try dsimp only
             try simp only [Act.put, lay1, lay2, lay3, lay4, lay5, lay6]
             refine wpAnyH_done (by kernel_rfl) ?_ _
             refine NoPanic.normal ?_
             go_wp2_with fail
             go_meet
             exact ⟨X11, s9, A9, L9, C9, D9, M9, E9, rfl, hR, q9, hU, hB, lX11, (by assumption)⟩
         · obtain ⟨u3_15, eu, hU, b3_15⟩ := box1 u3_2 32 #[.bool false, .slice none 0 0, .slice none 0 0]
           obtain ⟨X11, en⟩ : ∃ X, X = u3_2.heap.size := ⟨_, rfl⟩
           rw [← en] at hU
           have lX11 : w.heap.size ≤ X11 := by rw [en]; exact hB.size
           have dX11_hA : g ≠ X11 := by have := hA.lt; omega
           have dX11_hR : g + 1 ≠ X11 := by have := hR.lt; omega
           have EUX11 := Lib.hid (And.intro eu en)
           clear eu en
           go_simp
           rw [← EUX11.out.1, ← EUX11.out.2]
           replace hA := hA.below b3_15 hA.lt
           replace hR := hR.below b3_15 hR.lt
           replace q5 := q5.below b3_15
           replace hB := hB.trans (b3_15.mono hB.size)
           refine hK.out _ _ ?_ (fun hHeld => ?_)
           · exact ⟨hA.cell 0, hA.cell 1, hA.cell 2, hA.cell 3⟩
           clear hK K
           try simp only [Act.put, lay1, lay2, lay3, lay4, lay5, lay6]
           refine wpAnyH_ready (rs := [8]) (by kernel_rfl) (by simp) (AllReadyH.cons rfl (fun K hK => ?_) AllReadyH.nil)
           go_simp
           refine (hDe _).mono ?_
           rintro e u3_16 ⟨rfl, rfl⟩
           go_wp2_with fail
           refine hK.out _ _ ?_ (fun hHeld => ?_)
           · exact ⟨hA.cell 0, hA.cell 1, hA.cell 2, hA.cell 3⟩
           clear hK K
           try simp only [Act.put, lay1, lay2, lay3, lay4, lay5, lay6]
           refine wpAnyH_ready (rs := [9]) (by kernel_rfl) (by simp) (AllReadyH.cons rfl (fun K hK => ?_) AllReadyH.nil)
           go_simp
           refine (hOv _).mono ?_
           rintro e u3_17 ⟨v8, rfl, q8, b3_17⟩
           replace hA := hA.below b3_17 hA.lt
           replace hR := hR.below b3_17 hR.lt
           replace q5 := q5.below b3_17
           replace hU := hU.below b3_17 hU.lt
           replace hB := hB.trans (b3_17.mono hB.size)
           obtain ⟨s8, A8, L8, C8, D8, M8, E8, rfl, q8⟩ := q8.opn
           go_wp2_with fail
           refine hK.out _ _ ?_ (fun hHeld => ?_)
           · exact ⟨hA.cell 0, hA.cell 1, hA.cell 2, hA.cell 3⟩
           clear hK K
           try simp only [Act.put, lay1, lay2, lay3, lay4, lay5, lay6]
           refine wpAnyH_ready (rs := [10]) (by kernel_rfl) (by simp) (AllReadyH.cons rfl (fun K hK => ?_) AllReadyH.nil)
           go_simp
           refine (hMu _ _ _ q5 q8).mono ?_
           rintro e u3_18 ⟨v9, rfl, q9, b3_18⟩
           replace hA := hA.below b3_18 hA.lt
           replace hR := hR.below b3_18 hR.lt
           replace q5 := q5.below b3_18
           replace hU := hU.below b3_18 hU.lt
           replace q8 := q8.below b3_18
           replace hB := hB.trans (b3_18.mono hB.size)
           obtain ⟨s9, A9, L9, C9, D9, M9, E9, rfl, q9⟩ := q9.opn
           go_wp2_with fail
           refine hK.out _ _ ?_ (fun hHeld => ?_)
           · exact ⟨hA.cell 0, hA.cell 1, hA.cell 2, hA.cell 3⟩
           clear hK K
           try simp only [Act.put, lay1, lay2, lay3, lay4, lay5, lay6]
           refine wpAnyH_ready (rs := [12]) (by kernel_rfl) (by simp) (AllReadyH.cons rfl (fun K hK => ?_) AllReadyH.nil)
           obtain ⟨u3_19, eu, hU', kz, kb, kB⟩ := fill3 hU (.bool s9) (.slice A9 L9 C9) (.slice D9 M9 E9) (by simp [noU])
           have x0 : World.cell? _ ⟨X11, 0, none⟩ = some (.bool false) := hU.cell 0
           have x1 : World.cell? _ ⟨X11, 1, none⟩ = some (.slice none 0 0) := hU.cell 1
           have x2 : World.cell? _ ⟨X11, 2, none⟩ = some (.slice none 0 0) := hU.cell 2
           have xf := hU.frozen
           go_simp
           rw [← eu]
           replace hA := kb _ _ _ hA (by omega)
           replace hR := kb _ _ _ hR (by omega)
           replace q5 := q5.filled kz
           replace q8 := q8.filled kz
           replace q9 := q9.filled kz
           replace hB := kB _ _ (by omega) hB
           replace hU := hU'
           clear hU' kz kb kB eu xf x0 x1 x2
           refine hK.out _ _ ?_ (fun hHeld => ?_)
           · exact ⟨hA.cell 0, hA.cell 1, hA.cell 2, hA.cell 3⟩
           clear hK K
           try simp only [Act.put, lay1, lay2, lay3, lay4, lay5, lay6]
           try dsimp only
           try simp only [Act.put, lay1, lay2, lay3, lay4, lay5, lay6]
           refine wpAnyH_done (by kernel_rfl) ?_ _
           refine NoPanic.normal ?_
           go_wp2_with fail
           go_meet
           exact ⟨X11, s9, A9, L9, C9, D9, M9, E9, rfl, hR, q9, hU, hB, lX11, (by assumption)⟩
       · obtain ⟨u3_20, eu, hU, b3_20⟩ := box1 u3_1 32 #[.bool false, .slice none 0 0, .slice none 0 0]
         obtain ⟨X11, en⟩ : ∃ X, X = u3_1.heap.size := ⟨_, rfl⟩
         rw [← en] at hU
         have lX11 : w.heap.size ≤ X11 := by rw [en]; exact hB.size
         have dX11_hA : g ≠ X11 := by have := hA.lt; omega
         have dX11_hR : g + 1 ≠ X11 := by have := hR.lt; omega
         have EUX11 := Lib.hid (And.intro eu en)
         clear eu en
         go_simp
         rw [← EUX11.out.1, ← EUX11.out.2]
         replace hA := hA.below b3_20 hA.lt
         replace hR := hR.below b3_20 hR.lt
         replace q5 := q5.below b3_20
         replace hB := hB.trans (b3_20.mono hB.size)
         refine hK.out _ _ ?_ (fun hHeld => ?_)
         · exact ⟨hA.cell 0, hA.cell 1, hA.cell 2, hA.cell 3⟩
         clear hK K
         try simp only [Act.put, lay1, lay2, lay3, lay4, lay5, lay6]
         refine wpAnyH_ready (rs := [5]) (by kernel_rfl) (by simp) (AllReadyH.cons rfl (fun K hK => ?_) AllReadyH.nil)
         go_simp
         refine (hGa _).mono ?_
         rintro e u3_21 ⟨rfl, b3_21⟩
         replace hA := hA.below b3_21 hA.lt
         replace hR := hR.below b3_21 hR.lt
         replace q5 := q5.below b3_21
         replace hU := hU.below b3_21 hU.lt
         replace hB := hB.trans (b3_21.mono hB.size)
         go_wp2_with fail
         refine hK.out _ _ ?_ (fun hHeld => ?_)
         · exact ⟨hA.cell 0, hA.cell 1, hA.cell 2, hA.cell 3⟩
         clear hK K
         try simp only [Act.put, lay1, lay2, lay3, lay4, lay5, lay6]
         refine wpAnyH_ready (rs := [8]) (by kernel_rfl) (by simp) (AllReadyH.cons rfl (fun K hK => ?_) AllReadyH.nil)
         go_simp
         refine (hDe _).mono ?_
         rintro e u3_22 ⟨rfl, rfl⟩
         go_wp2_with fail
         refine hK.out _ _ ?_ (fun hHeld => ?_)
         · exact ⟨hA.cell 0, hA.cell 1, hA.cell 2, hA.cell 3⟩
         clear hK K
         try simp only [Act.put, lay1, lay2, lay3, lay4, lay5, lay6]
         refine wpAnyH_ready (rs := [9]) (by kernel_rfl) (by simp) (AllReadyH.cons rfl (fun K hK => ?_) AllReadyH.nil)
         go_simp
         refine (hOv _).mono ?_
         rintro e u3_23 ⟨v8, rfl, q8, b3_23⟩
         replace hA := hA.below b3_23 hA.lt
         replace hR := hR.below b3_23 hR.lt
         replace q5 := q5.below b3_23
         replace hU := hU.below b3_23 hU.lt
         replace hB := hB.trans (b3_23.mono hB.size)
         obtain ⟨s8, A8, L8, C8, D8, M8, E8, rfl, q8⟩ := q8.opn
         go_wp2_with fail
         refine hK.out _ _ ?_ (fun hHeld => ?_)
         · exact ⟨hA.cell 0, hA.cell 1, hA.cell 2, hA.cell 3⟩
         clear hK K
         try simp only [Act.put, lay1, lay2, lay3, lay4, lay5, lay6]
         refine wpAnyH_ready (rs := [10]) (by kernel_rfl) (by simp) (AllReadyH.cons rfl (fun K hK => ?_) AllReadyH.nil)
         go_simp
         refine (hMu _ _ _ q5 q8).mono ?_
         rintro e u3_24 ⟨v9, rfl, q9, b3_24⟩
         replace hA := hA.below b3_24 hA.lt
         replace hR := hR.below b3_24 hR.lt
         replace q5 := q5.below b3_24
         replace hU := hU.below b3_24 hU.lt
         replace q8 := q8.below b3_24
         replace hB := hB.trans (b3_24.mono hB.size)
         obtain ⟨s9, A9, L9, C9, D9, M9, E9, rfl, q9⟩ := q9.opn
         go_wp2_with fail
         refine hK.out _ _ ?_ (fun hHeld => ?_)
         · exact ⟨hA.cell 0, hA.cell 1, hA.cell 2, hA.cell 3⟩
         clear hK K
         try simp only [Act.put, lay1, lay2, lay3, lay4, lay5, lay6]
         refine wpAnyH_ready (rs := [12]) (by kernel_rfl) (by simp) (AllReadyH.cons rfl (fun K hK => ?_) AllReadyH.nil)
         obtain ⟨u3_25, eu, hU', kz, kb, kB⟩ := fill3 hU (.bool s9) (.slice A9 L9 C9) (.slice D9 M9 E9) (by simp [noU])
         have x0 : World.cell? _ ⟨X11, 0, none⟩ = some (.bool false) := hU.cell 0
         have x1 : World.cell? _ ⟨X11, 1, none⟩ = some (.slice none 0 0) := hU.cell 1
         have x2 : World.cell? _ ⟨X11, 2, none⟩ = some (.slice none 0 0) := hU.cell 2
         have xf := hU.frozen
         go_simp
         rw [← eu]
         replace hA := kb _ _ _ hA (by omega)
         replace hR := kb _ _ _ hR (by omega)
         replace q5 := q5.filled kz
         replace q8 := q8.filled kz
         replace q9 := q9.filled kz
         replace hB := kB _ _ (by omega) hB
         replace hU := hU'
         clear hU' kz kb kB eu xf x0 x1 x2
         refine hK.out _ _ ?_ (fun hHeld => ?_)
         · exact ⟨hA.cell 0, hA.cell 1, hA.cell 2, hA.cell 3⟩
         clear hK K
         try simp only [Act.put, lay1, lay2, lay3, lay4, lay5, lay6]
         try dsimp only
         try simp only [Act.put, lay1, lay2, lay3, lay4, lay5, lay6]
         refine wpAnyH_done (by kernel_rfl) ?_ _
         refine NoPanic.normal ?_
         go_wp2_with fail
         go_meet
         exact ⟨X11, s9, A9, L9, C9, D9, M9, E9, rfl, hR, q9, hU, hB, lX11, (by assumption)⟩
     · obtain ⟨u3_26, eu, hU, b3_26⟩ := box1 wd3_1 32 #[.bool false, .slice none 0 0, .slice none 0 0]
       obtain ⟨X11, en⟩ : ∃ X, X = wd3_1.heap.size := ⟨_, rfl⟩
       rw [← en] at hU
       have lX11 : w.heap.size ≤ X11 := by rw [en]; exact hB.size
       have dX11_hA : g ≠ X11 := by have := hA.lt; omega
       have dX11_hR : g + 1 ≠ X11 := by have := hR.lt; omega
       have EUX11 := Lib.hid (And.intro eu en)
       clear eu en
       go_simp
       rw [← EUX11.out.1, ← EUX11.out.2]
       replace hA := hA.below b3_26 hA.lt
       replace hR := hR.below b3_26 hR.lt
       replace hB := hB.trans (b3_26.mono hB.size)
       refine hK.out _ _ ?_ (fun hHeld => ?_)
       · exact ⟨hA.cell 0, hA.cell 1, hA.cell 2, hA.cell 3⟩
       clear hK K
       try simp only [Act.put, lay1, lay2, lay3, lay4, lay5, lay6]
       refine wpAnyH_ready (rs := [2]) (by kernel_rfl) (by simp) (AllReadyH.cons rfl (fun K hK => ?_) AllReadyH.nil)
       go_simp
       refine (hOs _).mono ?_
       rintro e u3_27 ⟨v5, rfl, q5, b3_27⟩
       replace hA := hA.below b3_27 hA.lt
       replace hR := hR.below b3_27 hR.lt
       replace hU := hU.below b3_27 hU.lt
       replace hB := hB.trans (b3_27.mono hB.size)
       obtain ⟨s5, A5, L5, C5, D5, M5, E5, rfl, q5⟩ := q5.opn
       go_wp2_with fail
       refine hK.out _ _ ?_ (fun hHeld => ?_)
       · exact ⟨hA.cell 0, hA.cell 1, hA.cell 2, hA.cell 3⟩
       clear hK K
       try simp only [Act.put, lay1, lay2, lay3, lay4, lay5, lay6]
       refine wpAnyH_ready (rs := [5]) (by kernel_rfl) (by simp) (AllReadyH.cons rfl (fun K hK => ?_) AllReadyH.nil)
       go_simp
       refine (hGa _).mono ?_
       rintro e u3_28 ⟨rfl, b3_28⟩
       replace hA := hA.below b3_28 hA.lt
       replace hR := hR.below b3_28 hR.lt
       replace hU := hU.below b3_28 hU.lt
       replace q5 := q5.below b3_28
       replace hB := hB.trans (b3_28.mono hB.size)
       go_wp2_with fail
       refine hK.out _ _ ?_ (fun hHeld => ?_)
       · exact ⟨hA.cell 0, hA.cell 1, hA.cell 2, hA.cell 3⟩
       clear hK K
       try simp only [Act.put, lay1, lay2, lay3, lay4, lay5, lay6]
       refine wpAnyH_ready (rs := [8]) (by kernel_rfl) (by simp) (AllReadyH.cons rfl (fun K hK => ?_) AllReadyH.nil)
       go_simp
       refine (hDe _).mono ?_
       rintro e u3_29 ⟨rfl, rfl⟩
       go_wp2_with fail
       refine hK.out _ _ ?_ (fun hHeld => ?_)
       · exact ⟨hA.cell 0, hA.cell 1, hA.cell 2, hA.cell 3⟩
       clear hK K
       try simp only [Act.put, lay1, lay2, lay3, lay4, lay5, lay6]
       refine wpAnyH_ready (rs := [9]) (by kernel_rfl) (by simp) (AllReadyH.cons rfl (fun K hK => ?_) AllReadyH.nil)
       go_simp
       refine (hOv _).mono ?_
       rintro e u3_30 ⟨v8, rfl, q8, b3_30⟩
       replace hA := hA.below b3_30 hA.lt
       replace hR := hR.below b3_30 hR.lt
       replace hU := hU.below b3_30 hU.lt
       replace q5 := q5.below b3_30
       replace hB := hB.trans (b3_30.mono hB.size)
       obtain ⟨s8, A8, L8, C8, D8, M8, E8, rfl, q8⟩ := q8.opn
       go_wp2_with fail
       refine hK.out _ _ ?_ (fun hHeld => ?_)
       · exact ⟨hA.cell 0, hA.cell 1, hA.cell 2, hA.cell 3⟩
       clear hK K
       try simp only [Act.put, lay1, lay2, lay3, lay4, lay5, lay6]
       refine wpAnyH_ready (rs := [10]) (by kernel_rfl) (by simp) (AllReadyH.cons rfl (fun K hK => ?_) AllReadyH.nil)
       go_simp
       refine (hMu _ _ _ q5 q8).mono ?_
       rintro e u3_31 ⟨v9, rfl, q9, b3_31⟩
       replace hA := hA.below b3_31 hA.lt
       replace hR := hR.below b3_31 hR.lt
       replace hU := hU.below b3_31 hU.lt
       replace q5 := q5.below b3_31
       replace q8 := q8.below b3_31
       replace hB := hB.trans (b3_31.mono hB.size)
       obtain ⟨s9, A9, L9, C9, D9, M9, E9, rfl, q9⟩ := q9.opn
       go_wp2_with fail
       refine hK.out _ _ ?_ (fun hHeld => ?_)
       · exact ⟨hA.cell 0, hA.cell 1, hA.cell 2, hA.cell 3⟩
       clear hK K
       try simp only [Act.put, lay1, lay2, lay3, lay4, lay5, lay6]
       refine wpAnyH_ready (rs := [12]) (by kernel_rfl) (by simp) (AllReadyH.cons rfl (fun K hK => ?_) AllReadyH.nil)
       obtain ⟨u3_32, eu, hU', kz, kb, kB⟩ := fill3 hU (.bool s9) (.slice A9 L9 C9) (.slice D9 M9 E9) (by simp [noU])
       have x0 : World.cell? _ ⟨X11, 0, none⟩ = some (.bool false) := hU.cell 0
       have x1 : World.cell? _ ⟨X11, 1, none⟩ = some (.slice none 0 0) := hU.cell 1
       have x2 : World.cell? _ ⟨X11, 2, none⟩ = some (.slice none 0 0) := hU.cell 2
       have xf := hU.frozen
       go_simp
       rw [← eu]
       replace hA := kb _ _ _ hA (by omega)
       replace hR := kb _ _ _ hR (by omega)
       replace q5 := q5.filled kz
       replace q8 := q8.filled kz
       replace q9 := q9.filled kz
       replace hB := kB _ _ (by omega) hB
       replace hU := hU'
       clear hU' kz kb kB eu xf x0 x1 x2
       refine hK.out _ _ ?_ (fun hHeld => ?_)
       · exact ⟨hA.cell 0, hA.cell 1, hA.cell 2, hA.cell 3⟩
       clear hK K
       try simp only [Act.put, lay1, lay2, lay3, lay4, lay5, lay6]
       try dsimp only
       try simp only [Act.put, lay1, lay2, lay3, lay4, lay5, lay6]
       refine wpAnyH_done (by kernel_rfl) ?_ _
       refine NoPanic.normal ?_
       go_wp2_with fail
       go_meet
       exact ⟨X11, s9, A9, L9, C9, D9, M9, E9, rfl, hR, q9, hU, hB, lX11, (by assumption)⟩
   obtain ⟨X11, s9, A9, L9, C9, D9, M9, E9, rfl, hR, q9, hU, hB, lX11, dX11_hR⟩ := hcut
   obtain ⟨c7, c8, c9⟩ := hR.q3
   obtain ⟨c10, c11, c12⟩ := hU.q3
   go_upto_region 4 with fail
   replace hB := hB.drew
   replace hR := hR.drew
   replace q9 := q9.below (bdrew _)
   replace hU := hU.drew
   clear c7 c8 c9 c10 c11 c12
   refine wp_region_noPanic ?_
   refine wp_region_held_drew (S := fun w' => w'.cell? ⟨X11, 0, none⟩ = some (.bool s9) ∧ w'.cell? ⟨X11, 1, none⟩ = some (.slice A9 L9 C9) ∧ w'.cell? ⟨X11, 2, none⟩ = some (.slice D9 M9 E9)) (by kernel_rfl) ?_ (fun hHeld => ?_)
   · exact ⟨hU.cell 0, hU.cell 1, hU.cell 2⟩
   obtain ⟨wd4_2, hwd⟩ : ∃ q, q = wc.drew := ⟨_, rfl⟩
   rw [← hwd] at hB hR q9 hU hHeld ⊢
   clear hwd
   refine tkH 0 rfl (v := ?v7) ?h7 ?r7
   case h7 => intro w hSw; (try dsimp only at hSw); go_simp; try (with_reducible rfl)
   try simp only [Act.put, lay1, lay3, lay4, lay5, lay6]
   refine wpAnyH_ready (rs := [1]) (by kernel_rfl) (by simp) (AllReadyH.cons rfl (fun K hK => ?_) AllReadyH.nil)
   go_simp
   refine (hO1 _).mono ?_
   rintro e u4_1 ⟨v10, rfl, q10, b4_1⟩
   replace hR := hR.below b4_1 hR.lt
   replace q9 := q9.below b4_1
   replace hU := hU.below b4_1 hU.lt
   replace hB := hB.trans (b4_1.mono hB.size)
   obtain ⟨s10, A10, L10, C10, D10, M10, E10, rfl, q10⟩ := q10.opn
   go_wp2_with fail
   refine hK.out _ _ ?_ (fun hHeld => ?_)
   · exact ⟨hU.cell 0, hU.cell 1, hU.cell 2⟩
   clear hK K
   try simp only [Act.put, lay1, lay2, lay3, lay4, lay5, lay6]
   refine wpAnyH_ready (rs := [2]) (by kernel_rfl) (by simp) (AllReadyH.cons rfl (fun K hK => ?_) AllReadyH.nil)
   go_simp
   refine (hAd _ _ _ q9 q10).mono ?_
   rintro e u4_2 ⟨v11, rfl, q11, b4_2⟩
   replace hR := hR.below b4_2 hR.lt
   replace q9 := q9.below b4_2
   replace hU := hU.below b4_2 hU.lt
   replace q10 := q10.below b4_2
   replace hB := hB.trans (b4_2.mono hB.size)
   obtain ⟨s11, A11, L11, C11, D11, M11, E11, rfl, q11⟩ := q11.opn
   go_wp2_with fail
   refine hK.out _ _ ?_ (fun hHeld => ?_)
   · exact ⟨hU.cell 0, hU.cell 1, hU.cell 2⟩
   clear hK K
   try simp only [Act.put, lay1, lay2, lay3, lay4, lay5, lay6]
   refine wpAnyH_ready (rs := [3]) (by kernel_rfl) (by simp) (AllReadyH.cons rfl (fun K hK => ?_) AllReadyH.nil)
   go_simp
   refine (hOh _).mono ?_
   rintro e u4_3 ⟨v12, rfl, q12, b4_3⟩
   replace hR := hR.below b4_3 hR.lt
   replace q9 := q9.below b4_3
   replace hU := hU.below b4_3 hU.lt
   replace q10 := q10.below b4_3
   replace q11 := q11.below b4_3
   replace hB := hB.trans (b4_3.mono hB.size)
   obtain ⟨s12, A12, L12, C12, D12, M12, E12, rfl, q12⟩ := q12.opn
   go_wp2_with fail
   refine hK.out _ _ ?_ (fun hHeld => ?_)
   · exact ⟨hU.cell 0, hU.cell 1, hU.cell 2⟩
   clear hK K
   try simp only [Act.put, lay1, lay2, lay3, lay4, lay5, lay6]
   refine wpAnyH_ready (rs := [4]) (by kernel_rfl) (by simp) (AllReadyH.cons rfl (fun K hK => ?_) AllReadyH.nil)
   go_simp
   refine (hMh _ _ _ q11 q12).mono ?_
   rintro e u4_4 ⟨v13, rfl, q13, b4_4⟩
   replace hR := hR.below b4_4 hR.lt
   replace q9 := q9.below b4_4
   replace hU := hU.below b4_4 hU.lt
   replace q10 := q10.below b4_4
   replace q11 := q11.below b4_4
   replace q12 := q12.below b4_4
   replace hB := hB.trans (b4_4.mono hB.size)
   obtain ⟨s13, A13, L13, C13, D13, M13, E13, rfl, q13⟩ := q13.opn
   go_wp2_with fail
   refine hK.out _ _ ?_ (fun hHeld => ?_)
   · exact ⟨hU.cell 0, hU.cell 1, hU.cell 2⟩
   clear hK K
   try simp only [Act.put, lay1, lay2, lay3, lay4, lay5, lay6]
   refine wpAnyH_ready (rs := [5]) (by kernel_rfl) (by simp) (AllReadyH.cons rfl (fun K hK => ?_) AllReadyH.nil)
   obtain ⟨u4_5, eu, hR', kz, kb, kB⟩ := fill3 hR (.bool s13) (.slice A13 L13 C13) (.slice D13 M13 E13) (by simp [noU])
   have x0 : World.cell? _ ⟨g + 1, 0, none⟩ = some (.bool false) := hR.cell 0
   have x1 : World.cell? _ ⟨g + 1, 1, none⟩ = some (.slice none 0 0) := hR.cell 1
   have x2 : World.cell? _ ⟨g + 1, 2, none⟩ = some (.slice none 0 0) := hR.cell 2
   have xf := hR.frozen
   go_simp
   rw [← eu]
   replace q9 := q9.filled kz
   replace hU := kb _ _ _ hU (by omega)
   replace q10 := q10.filled kz
   replace q11 := q11.filled kz
   replace q12 := q12.filled kz
   replace q13 := q13.filled kz
   replace hB := kB _ _ (by omega) hB
   replace hR := hR'
   clear hR' kz kb kB eu xf x0 x1 x2
   refine hK.out _ _ ?_ (fun hHeld => ?_)
   · exact ⟨hU.cell 0, hU.cell 1, hU.cell 2⟩
   clear hK K
   try simp only [Act.put, lay1, lay2, lay3, lay4, lay5, lay6]
   try dsimp only
   try simp only [Act.put, lay1, lay2, lay3, lay4, lay5, lay6]
   refine wpAnyH_done (by kernel_rfl) ?_ _
   refine NoPanic.normal ?_
   skip
   obtain ⟨c13, c14, c15⟩ := hR.q3
   obtain ⟨c16, c17, c18⟩ := hU.q3
   go_wp2_with fail
   exact bodyPost_ret (v := .agg #[.bool s13, .slice A13 L13 C13, .slice D13 M13 E13]) (by simp [results, Tryz.results62, go_sem, c13, c14, c15]) rfl ⟨_, rfl, q13, hB⟩
set_option maxRecDepth 100000 in
set_option maxHeartbeats 8000000 in
theorem rquant_any (v : Value) (s : St) (w : World) (h : IsSt w v s) (hf : FewB s.2.2.2.2.2) (hn : lenS s.2.2.2.2.2 ≤ 5000) (hld : ∀ b ∈ s.2.2.2.2.2, LoadB b) :
   Calls Tryz.prog 16 #[v] w fun e w' => ∃ v', e = .returned v' ∧ IsQs w' v' (quantS s.2.2.2.2.2) ∧ Below w.heap.size w w' := by
 obtain ⟨z0, hi0, hz0, hz1, hz2⟩ := info_parts info_rat
 obtain ⟨k, z, m, o, n, bs⟩ := s
 obtain ⟨x, rfl, hb⟩ := h
 simp only at *
 obtain ⟨A, c, rfl, hc1, hc2⟩ := hb.len
 obtain ⟨W0, hW, hR, hB⟩ := box1 w 26 #[.int .i64 k, .int .i64 z, .int .i64 m, .int .i64 o, .int .i64 n, .slice A bs.length c]
 obtain ⟨g, hg⟩ : ∃ g, g = w.heap.size := ⟨_, rfl⟩
 obtain ⟨X, hX⟩ : ∃ X, X = W0.heap.size := ⟨_, rfl⟩
 rw [← hg] at hR
 replace hb := hb.below hB
 obtain ⟨W1, hW1, hO, hB1⟩ := box1 W0 32 #[]
 rw [← hX] at hO hB1
 have own0 : OwnQs W1 X (.slice (some ⟨X, 0, none⟩) 0 0) [] := by
   refine ⟨[], OkQ.nil _, ?_, fun g cs t fr e1 e2 => ?_⟩
   · have := World.ownsRow_lit W0 #[] 0 (base := X) (e := 32) (size := 3) (by omega) (by unfold maxLen; omega) rfl
     rw [← hX, ← hW1] at this; exact this
   · have e3 : g = X := by simpa [Value.ownBlock] using e1.symm
     subst e3
     have hO' : W1.heap[g]? = _ := hO
     rw [hO'] at e2; cases e2; simp
 have hXw : w.heap.size ≤ X := by rw [hX, hW, World.size_alloc]; omega
 have hgX : g < X := by rw [hX]; exact hR.lt
 have hX1 : X ≤ W1.heap.size := Nat.le_of_lt hO.lt
 have hX2 : w.heap.size + 1 = X := by rw [hX, hW, World.size_alloc]
 have hc := fun wr (h : Below X W0 wr) => (hR.below h hgX).cell 5
 have hAt : ∀ i, i < bs.length → ∃ (ad : Addr) (c' : Nat) (k s : Int) (cs : List Nat) (wd : List Int) (A2 A3 : Option Addr) (C2 C3 : Nat), Value.slice A bs.length c = .slice (some ad) bs.length c' ∧ bs[i]? = some (k, s, cs, wd) ∧ ∀ wr, Below X W0 wr →
     wr.cell? (ad.add (i * 4)) = some (.int .i64 k) ∧ wr.cell? ⟨(ad.add (i * 4)).block, (ad.add (i * 4)).off + 1, none⟩ = some (.int .i64 s) ∧ wr.cell? ⟨(ad.add (i * 4)).block, (ad.add (i * 4)).off + 2, none⟩ = some (.slice A2 cs.length C2) ∧ wr.cell? ⟨(ad.add (i * 4)).block, (ad.add (i * 4)).off + 3, none⟩ = some (.slice A3 wd.length C3) ∧ IsBk wr (.agg #[.int .i64 k, .int .i64 s, .slice A2 cs.length C2, .slice A3 wd.length C3]) k s cs wd := by
   intro i hi
   obtain ⟨ad, c', k, s, cs, wd, a, b, e, hl, hat, x0, x1, x2, x3, hy, hi⟩ := hb.at_ hi
   obtain ⟨A2, C2, rfl, _, _⟩ := id hy.form
   obtain ⟨A3, C3, rfl, _, _⟩ := id hi.form
   rw [← hX] at hl
   refine ⟨ad, c', k, s, cs, wd, A2, A3, C2, C3, e, hat, fun wr h => ⟨cellLE h (by rw [block_of_add]; exact hl) x0, cellLE h (by show (ad.add _).block < X; rw [block_of_add]; exact hl) x1, cellLE h (by show (ad.add _).block < X; rw [block_of_add]; exact hl) x2, cellLE h (by show (ad.add _).block < X; rw [block_of_add]; exact hl) x3, _, _, rfl, hy.below (h.mono2 hX.symm), hi.below (h.mono2 hX.symm)⟩⟩
 have hW' := Lib.hid (And.intro hW (And.intro hg (And.intro hW1 (And.intro hX hX2))))
 have c5 := hR.cell 5
 clear hW hg hW1 hO hX hb hR hX2
 go_enter Tryz.func16, Tryz.ntmps16
 go_upto_region 2 with fail
 rw [← hW'.out.1, ← hW'.out.2.2.1]
 first | rw [hW'.out.2.2.2.2] | rw [← hW'.out.2.2.2.1]
 rw [← hW'.out.2.1]
 go_wp2_with fail
 clear c5
 go_loopw [4, 3] (fun i o wr => ∃ (j : Nat) (vo : Value), vo = o ∧ i = .int .i64 j ∧ j ≤ bs.length ∧ OwnQs wr X vo (quantS (bs.take j)) ∧ Below X W0 wr ∧ X ≤ wr.heap.size) (fun i _ _ => bs.length - (intOf i).toNat)
 case atStart => exact ⟨0, _, rfl, rfl, by omega, by rw [List.take_zero]; exact own0, hB1, hX1⟩
 case round =>
   clear own0 hB1 hX1
   obtain ⟨j, vo, rfl, rfl, hj, ho, bl, hXr⟩ := hrel
   have c5 := hc _ bl
   by_cases hlt : j < bs.length
   · obtain ⟨ad, c', k1, s1, cs, wd, A2, A3, C2, C3, e1, hat, hx⟩ := hAt j hlt
     obtain ⟨rfl, _, rfl⟩ := Value.slice.inj e1
     obtain ⟨x0, x1, x2, x3, hk⟩ := hx _ bl
     obtain ⟨rs, ers⟩ : ∃ rs, rs = quantS (bs.take j) := ⟨_, rfl⟩
     have HS := Lib.hid (show quantS (bs.take (j + 1)) = rs ++ List.replicate (cs.length + wd.length) (boundQ k1 s1) by rw [ers, take_bk hat, quantS_snoc]; rfl)
     have hrl : rs.length ≤ 5000 := by rw [ers, quantS_len]; exact Nat.le_trans (lenS_take _ _) hn
     have hl := hf.2 _ (mem_at hat)
     have hL := hld _ (mem_at hat)
     simp only [bkLen] at hl
     rw [← ers] at ho
     clear ers e1
     have i0 : (0 : Int) ≤ (j : Int) := by omega
     have i1 : (j : Int) < (bs.length : Int) := by omega
     have hLe := fun v w h => rblen_any v k1 s1 cs wd w h (by omega) (by omega)
     have hBd := fun w h => rbound_any (.agg #[.int .i64 k1, .int .i64 s1, .slice A2 cs.length C2, .slice A3 wd.length C3]) k1 s1 cs wd w h hL
     generalize boundQ k1 s1 = rb at *
     obtain ⟨nl, enl⟩ : ∃ nl, nl = cs.length + wd.length := ⟨_, rfl⟩
     rw [show (cs.length : Int) + wd.length = (nl : Int) by omega] at hLe
     rw [← enl] at HS hl
     have hB := Below.refl wr.heap.size wr
     clear hat enl hL
     have ho6 : ∀ g, wr.heap.size ≤ g → vo.ownBlock ≠ some g := fun g hg e => by have := (ho.lt g e).2; omega
     go_wp2_with fail
     refine (hBd _ (hk.below hB)).mono ?_
     rintro e w11 ⟨v4, rfl, q4, b11⟩
     replace hB := hB.trans (b11.mono hB.size)
     obtain ⟨s4, A4, L4, C4, D4, M4, E4, rfl, q4⟩ := q4.opn
     obtain ⟨V13, eV, h5, bV13⟩ := box1 w11 32 #[.bool s4, .slice A4 L4 C4, .slice D4 M4 E4]
     obtain ⟨X13, eX⟩ : ∃ X, X = w11.heap.size := ⟨_, rfl⟩
     rw [← eX] at h5
     have lX13 : wr.heap.size ≤ X13 := by rw [eX]; exact hB.size
     have EV13 := Lib.hid (And.intro eV eX)
     clear eV eX
     go_upto_region 6 with fail
     rw [← EV13.out.1, ← EV13.out.2]
     replace q4 := q4.below bV13
     replace hB := hB.trans (bV13.mono hB.size)
     obtain ⟨c0, c1, c2⟩ := h5.q3
     have ho := ho.below hB
     have hoY := ho6 _ lX13
     have bl2 := bl.trans (hB.mono hXr)
     clear ho6 hBd hB x0 x1 x2 x3 hk c5 c0 c1 c2
     go_wp2_with fail
     go_loopw [3, 6] (fun o kV wi => ∃ (q : Nat) (vi : Value), vi = o ∧ q ≤ nl ∧ kV = .int .i64 q ∧ OwnQs wi X vi (rs ++ List.replicate q rb) ∧ Blk wi X13 32 #[.bool s4, .slice A4 L4 C4, .slice D4 M4 E4] ∧ IsQ wi (.agg #[.bool s4, .slice A4 L4 C4, .slice D4 M4 E4]) rb ∧ vi.ownBlock ≠ some X13 ∧ Below X W0 wi) (fun _ i _ => nl - (intOf i).toNat)
     case atStart => exact ⟨0, _, rfl, Nat.zero_le _, rfl, by rw [List.replicate_zero, List.append_nil]; exact ho, h5, q4, hoY, bl2⟩
     case round =>
       clear ho h5 q4 hoY bl2
       obtain ⟨q, vi, rfl, hq, rfl, hoi, hY, hqq, hvY, bi⟩ := hrel
       have hwi : X ≤ wr.heap.size := by have := hY.lt; omega
       obtain ⟨x0, x1, x2, x3, hk⟩ := hx _ bi
       have c5 := hc _ bi
       go_wp2_with fail
       refine (hLe _ _ hk).mono ?_
       rintro e w2 ⟨rfl, b2⟩
       clear x0 x1 x2 x3 c5 hk
       replace hoi := hoi.below b2
       replace hY := hY.below b2 hY.lt
       replace hqq := hqq.below b2
       replace bi := bi.trans (b2.mono hwi)
       replace hwi := Nat.le_trans hwi b2.size
       clear b2
       by_cases hlq : q < nl
       · obtain ⟨es, k1', k2, k3⟩ := hoi
         have hlen : (rs ++ List.replicate q rb).length ≤ 1000000 := by rw [List.length_append, List.length_replicate]; omega
         have hrr : rs ++ List.replicate (q + 1) rb = (rs ++ List.replicate q rb) ++ [rb] := by rw [List.replicate_succ', List.append_assoc]
         have HRR := Lib.hid hrr
         clear hrr
         obtain ⟨rl, erl⟩ : ∃ rl, rl = rs ++ List.replicate q rb := ⟨_, rfl⟩
         rw [← erl] at k1' k2 hlen HRR
         clear erl
         obtain ⟨N, eN⟩ : ∃ N, N = rl.length := ⟨_, rfl⟩
         obtain ⟨A9, c9, ev9, _, _, _⟩ := own3_form k2
         rw [← eN] at k2 hlen ev9
         subst ev9
         have HN := Lib.hid eN
         clear eN
         have y0 : w2.cell? ⟨X13, 0, none⟩ = some (.bool s4) := hY.cell 0
         have y1 : w2.cell? ⟨X13, 1, none⟩ = some (.slice A4 L4 C4) := hY.cell 1
         have y2 : w2.cell? ⟨X13, 2, none⟩ = some (.slice D4 M4 E4) := hY.cell 2
         have hYl := hY.lt
         have j0 : (q : Int) < (nl : Int) := by omega
         have hnoA : NoUB (w2.alloc (.cells #[.bool s4, .slice A4 L4 C4, .slice D4 M4 E4] 32)) (.slice A9 N c9) := k3.below k2 ((Below.refl _ _).alloc (Nat.le_refl _) _)
         have hkA : OkQ (w2.alloc (.cells #[.bool s4, .slice A4 L4 C4, .slice D4 M4 E4] 32)) es rl := k1'.below ((Below.refl _ _).alloc (Nat.le_refl _) _)
         have hqA : IsQ (w2.alloc (.cells #[.bool s4, .slice A4 L4 C4, .slice D4 M4 E4] 32)) (.agg #[.bool s4, .slice A4 L4 C4, .slice D4 M4 E4]) rb := hqq.below ((Below.refl _ _).alloc (Nat.le_refl _) _)
         go_wp2_with (at_builtin; go_must (refine wpList_append_noU _ rfl _ _ 40 rfl X 32 z0 _ 3 56 Tryz.underlying40 hi0 hz0 hz1 hz2 rfl (by omega) (by simp [Value.cells, noU]) _ N (flatQ es) rfl (k2.alloc _) hnoA ⟨w2.heap.size, 0, none⟩ 1 1 (cellsQ (s4, .slice A4 L4 C4, .slice D4 M4 E4)) rfl rfl (lit3_cells _ _ _ _ _) (by simp [cellsQ, Value.oneCell']) (by simp [cellsQ, noU]) (by omega) (by unfold maxLen; omega) (by omega) (by simp; omega) ?_; intro v' w3 hown' hgrow hno' hat))
         have hpush : OwnQs w3 X v' (rl ++ [rb]) := OwnQs.push (e := (s4, .slice A4 L4 C4, .slice D4 M4 E4)) hkA hnoA (by rw [← HN.out]; exact k2.alloc _) hqA (by rw [← HN.out]; exact hown') hgrow hno'
         have hYw : Blk w3 X13 32 #[.bool s4, .slice A4 L4 C4, .slice D4 M4 E4] := (hgrow.block X13 (by simp; omega) (fun e => hvY e.symm)).trans ((Below.heap_alloc _ _ X13 hYl).trans hY)
         have hqw : IsQ w3 (.agg #[.bool s4, .slice A4 L4 C4, .slice D4 M4 E4]) rb := hqA.kept (fun u n h => IsL.noUB h hnoA (k2.alloc _) hgrow)
         have hv8 : v'.ownBlock ≠ some X13 := fun e => by
           rcases hat with h | h
           · rw [h] at e; exact hvY e
           · rw [h] at e; injection e with e; simp at e; omega
         have hBw : Below X W0 w3 := bi.trans (((Below.refl X w2).alloc hwi _).grown hgrow (by simp; omega) (fun k e => (k2.lt k e).1))
         refine ⟨⟨q + 1, _, rfl, by omega, congrArg (Value.int .i64) (by omega), ?_, hYw, hqw, hv8, hBw⟩, by simp [intOf]; omega⟩
         rw [HRR.out]; exact hpush
       · obtain rfl : q = nl := by omega
         go_wp2
         refine ⟨⟨j + 1, _, rfl, by go_num, by omega, ?_, bi, hwi⟩, by simp [intOf]; omega⟩
         rw [HS.out]; exact hoi
   · obtain rfl : j = bs.length := by omega
     rw [List.take_length] at ho
     go_wp2
     go_ret
     exact ⟨_, rfl, ho.is, hB.trans (bl.mono hXw)⟩
end Go.Proofs.YtdnjdglekifhpaaGreat
namespace Go.Proofs.YtdnjdglekifhpaaGreat
open Go.RowKit
attribute [local go_sem ↓] Go.wp_at_zero Go.wp_at_succ
set_option maxRecDepth 100000 in
set_option maxHeartbeats 8000000 in
theorem rrats_same (va vb : Value) (rs : List Rat) (w : World) (ha : IsQs w va rs) (hb : IsQs w vb rs) :
   Calls Tryz.prog 14 #[va, vb] w fun e w' => e = .returned (.bool true) ∧ Below w.heap.size w w' := by
 obtain ⟨A, c, rfl, _, _⟩ := ha.len
 obtain ⟨B, d, rfl, _, _⟩ := hb.len
 go_enter Tryz.func14, Tryz.ntmps14
 go_wp2_with fail
 go_loopw [5] (fun i wr => ∃ j : Nat, i = .int .i64 j ∧ j ≤ rs.length ∧ Below w.heap.size w wr) (fun i _ => rs.length - (intOf i).toNat)
 case atStart => exact ⟨0, rfl, by omega, Below.refl _ _⟩
 case round =>
   obtain ⟨j, rfl, hj, bl⟩ := hrel
   by_cases hlt : j < rs.length
   · obtain ⟨ad, c', u1, p1, r1, e1, _, x0, x1, x2, hq1⟩ := (ha.below bl).at_ hlt
     obtain ⟨bd, d', u2, p2, r2, e2, _, y0, y1, y2, hq2⟩ := (hb.below bl).at_ hlt
     obtain ⟨rfl, _, rfl⟩ := Value.slice.inj e1
     obtain ⟨rfl, _, rfl⟩ := Value.slice.inj e2
     have i0 : (0 : Int) ≤ (j : Int) := by omega
     have i1 : (j : Int) < (rs.length : Int) := by omega
     generalize rs[j] = r at *
     obtain ⟨s1, A1, L1, C1, D1, M1, E1, e3, q1⟩ := hq1.opn
     obtain ⟨s2, A2, L2, C2, D2, M2, E2, e4, q2⟩ := hq2.opn
     obtain ⟨rfl, rfl, rfl⟩ : s1 = u1 ∧ p1 = .slice A1 L1 C1 ∧ r1 = .slice D1 M1 E1 := by
       injection e3 with e3; simp only [Array.mk.injEq, List.cons.injEq, and_true] at e3; exact ⟨by have := e3.1; injection this with this; exact this.symm, e3.2.1, e3.2.2⟩
     obtain ⟨rfl, rfl, rfl⟩ : s2 = u2 ∧ p2 = .slice A2 L2 C2 ∧ r2 = .slice D2 M2 E2 := by
       injection e4 with e4; simp only [Array.mk.injEq, List.cons.injEq, and_true] at e4; exact ⟨by have := e4.1; injection this with this; exact this.symm, e4.2.1, e4.2.2⟩
     clear e1 e2 e3 e4 hq1 hq2
     have hS := fun u v w hu hv => rqsame_any u v r r w hu hv
     rw [decide_eq_true rfl] at hS
     have hB := Below.refl wr.heap.size wr
     go_upto_region 6 with fail
     replace hB := hB.drew
     replace q1 := q1.below (bdrew _)
     replace q2 := q2.below (bdrew _)
     replace x0 := cellAU (bdrew _) x0
     replace x1 := cellAU (bdrew _) x1
     replace x2 := cellAU (bdrew _) x2
     replace y0 := cellAU (bdrew _) y0
     replace y1 := cellAU (bdrew _) y1
     replace y2 := cellAU (bdrew _) y2
     refine wp_region_noPanic ?_
     refine wp_region_held_drew (S := fun w' => w'.cell? (ad.add (j * 3)) = some (.bool s1) ∧ w'.cell? ⟨(ad.add (j * 3)).block, (ad.add (j * 3)).off + 1, none⟩ = some (.slice A1 L1 C1) ∧ w'.cell? ⟨(ad.add (j * 3)).block, (ad.add (j * 3)).off + 2, none⟩ = some (.slice D1 M1 E1) ∧ w'.cell? (bd.add (j * 3)) = some (.bool s2) ∧ w'.cell? ⟨(bd.add (j * 3)).block, (bd.add (j * 3)).off + 1, none⟩ = some (.slice A2 L2 C2) ∧ w'.cell? ⟨(bd.add (j * 3)).block, (bd.add (j * 3)).off + 2, none⟩ = some (.slice D2 M2 E2)) (by kernel_rfl) ?_ (fun hHeld => ?_)
     · exact ⟨x0, x1, x2, y0, y1, y2⟩
     obtain ⟨wd6_1, hwd⟩ : ∃ q, q = wr.drew := ⟨_, rfl⟩
     rw [← hwd] at hB q1 q2 x0 x1 x2 y0 y1 y2 hHeld ⊢
     clear hwd
     refine tkH 0 rfl (v := ?v1) ?h1 ?r1
     case h1 => intro w hSw; (try dsimp only at hSw); go_simp; try (with_reducible rfl)
     refine tkH 1 rfl (v := ?v2) ?h2 ?r2
     case h2 => intro w hSw; (try dsimp only at hSw); go_simp; try (with_reducible rfl)
     refine tkH 2 rfl (v := ?v3) ?h3 ?r3
     case h3 => intro w hSw; (try dsimp only at hSw); go_simp; try (with_reducible rfl)
     refine tkH 3 rfl (v := ?v4) ?h4 ?r4
     case h4 => intro w hSw; (try dsimp only at hSw); go_simp; try (with_reducible rfl)
     refine tkH 4 rfl (v := ?v5) ?h5 ?r5
     case h5 => intro w hSw; (try dsimp only at hSw); go_simp; try (with_reducible rfl)
     refine tkH 5 rfl (v := ?v6) ?h6 ?r6
     case h6 => intro w hSw; (try dsimp only at hSw); go_simp; try (with_reducible rfl)
     refine tkH 6 rfl (v := ?v7) ?h7 ?r7
     case h7 => intro w hSw; (try dsimp only at hSw); go_simp; try (with_reducible rfl)
     refine tkH 7 rfl (v := ?v8) ?h8 ?r8
     case h8 => intro w hSw; (try dsimp only at hSw); go_simp; try (with_reducible rfl)
     try simp only [Act.put, lay1, lay2, lay3, lay4, lay5, lay6]
     refine wpAnyH_ready (rs := [8]) (by kernel_rfl) (by simp) (AllReadyH.cons rfl (fun K hK => ?_) AllReadyH.nil)
     go_simp
     refine (hS _ _ _ q1 q2).mono ?_
     rintro e u6_1 ⟨rfl, b6_1⟩
     replace q1 := q1.below b6_1
     replace q2 := q2.below b6_1
     replace x0 := cellAU b6_1 x0
     replace x1 := cellAU b6_1 x1
     replace x2 := cellAU b6_1 x2
     replace y0 := cellAU b6_1 y0
     replace y1 := cellAU b6_1 y1
     replace y2 := cellAU b6_1 y2
     replace hB := hB.trans (b6_1.mono hB.size)
     go_wp2_with fail
     refine hK.out _ _ ?_ (fun hHeld => ?_)
     · exact ⟨x0, x1, x2, y0, y1, y2⟩
     clear hK K
     refine tkH 9 rfl (v := ?v9) ?h9 ?r9
     case h9 => intro w hSw; (try dsimp only at hSw); go_simp; try (with_reducible rfl)
     try simp only [Act.put, lay1, lay2, lay3, lay4, lay5, lay6]
     try dsimp only
     try simp only [Act.put, lay1, lay2, lay3, lay4, lay5, lay6]
     refine wpAnyH_done (by kernel_rfl) ?_ _
     refine NoPanic.normal ?_
     skip
     go_wp2
     exact ⟨⟨j + 1, by go_num, by omega, bl.trans (hB.mono bl.size)⟩, by simp [intOf]; omega⟩
   · obtain rfl : j = rs.length := by omega
     go_wp2
     go_ret
     exact ⟨rfl, bl⟩
set_option maxRecDepth 100000 in
set_option maxHeartbeats 8000000 in
theorem raround_any (n : Int) (k : Nat) (va : Value) (a : Rat) (w : World) (hk : k ≤ 40) (hb : In64 n) (ha : IsQ w va a) (sa : BQ a 2000) (na : decide (a.num < 0) = false) :
   Calls Tryz.prog 20 #[.int .i64 n, .int .i64 k, va] w fun e w' => ∃ v', e = .returned (.tuple #[v', .int .i64 0]) ∧ IsS w' v' (mkRat n (2 ^ k) - a * mkRat 1 (2 ^ k)) (mkRat n (2 ^ k) + a * mkRat 1 (2 ^ k)) ∧ Below w.heap.size w w' := by
 have hN := fun w => rrat_any n k w hk hb
 have sx := sz_man hb hk
 have h1 : In64 1 := ⟨by omega, by omega⟩
 have hO := fun w => rrat_any 1 k w hk h1
 have s1' := sz_man h1 hk
 have hMu := fun u v w hu hv => rqmul_any u v a (mkRat 1 (2 ^ k)) w hu hv (sa.more (by omega)) (s1'.more (by omega))
 have sm := sa.mul s1'
 have hSu := fun u v w hu hv => rqsub_any u v (mkRat n (2 ^ k)) (a * mkRat 1 (2 ^ k)) w hu hv (sx.more (by omega)) (sm.more (by omega))
 have hAd := fun u v w hu hv => rqadd_any u v (mkRat n (2 ^ k)) (a * mkRat 1 (2 ^ k)) w hu hv (sx.more (by omega)) (sm.more (by omega))
 generalize mkRat n (2 ^ k) - a * mkRat 1 (2 ^ k) = r1 at *
 generalize mkRat n (2 ^ k) + a * mkRat 1 (2 ^ k) = r2 at *
 generalize a * mkRat 1 (2 ^ k) = by_ at *
 generalize mkRat 1 (2 ^ k) = st at *
 generalize mkRat n (2 ^ k) = x at *
 obtain ⟨s1, A1, L1, C1, D1, M1, E1, rfl, q1⟩ := ha.opn
 obtain rfl : s1 = false := by rw [q1.parts.1]; exact na
 clear sx s1' sm sa na ha h1 hb
 obtain ⟨g, hg⟩ : ∃ g, g = w.heap.size := ⟨_, rfl⟩
 obtain ⟨Y0, eY0, hA, bY0⟩ := box1 w 32 #[.bool false, .slice A1 L1 C1, .slice D1 M1 E1]
 have zY0 : Y0.heap.size = g + 1 := by rw [eY0, World.size_alloc, ← hg]
 rw [← hg] at hA
 replace q1 := q1.below bY0
 have hB := bY0
 obtain ⟨Y1, eY1, hR, bY1⟩ := box1 Y0 46 #[.bool false, .slice none 0 0, .slice none 0 0, .bool false, .slice none 0 0, .slice none 0 0]
 have zY1 : Y1.heap.size = g + 1 + 1 := by rw [eY1, World.size_alloc, zY0]
 rw [zY0] at hR
 replace hA := hA.below bY1 hA.lt
 replace q1 := q1.below bY1
 replace hB := hB.trans (bY1.mono hB.size)
 have hgw : w.heap.size ≤ g := by omega
 have EY := Lib.hid (And.intro hg (And.intro eY0 eY1))
 clear hg eY0 zY0 eY1 zY1
 obtain ⟨c0, c1, c2⟩ := hA.q3
 obtain ⟨c3, c4, c5, c6, c7, c8⟩ := hR.q6
 go_enter Tryz.func20, Tryz.ntmps20
 go_wp2_with fail
 rw [← EY.out.2.1, ← EY.out.2.2, ← EY.out.1]
 refine (hN _).mono ?_
 rintro e w2 ⟨v3, rfl, q3, b2⟩
 replace q1 := q1.below b2
 replace hA := hA.below b2 hA.lt
 replace hR := hR.below b2 hR.lt
 replace hB := hB.trans (b2.mono hB.size)
 clear c0 c1 c2 c3 c4 c5 c6 c7 c8
 obtain ⟨c9, c10, c11⟩ := hA.q3
 obtain ⟨c12, c13, c14, c15, c16, c17⟩ := hR.q6
 obtain ⟨s3, A3, L3, C3, D3, M3, E3, rfl, q3⟩ := q3.opn
 obtain ⟨V4, eV, hV, bV4⟩ := box1 w2 32 #[.bool s3, .slice A3 L3 C3, .slice D3 M3 E3]
 obtain ⟨X4, eX⟩ : ∃ X, X = w2.heap.size := ⟨_, rfl⟩
 rw [← eX] at hV
 have lX4 : w.heap.size ≤ X4 := by rw [eX]; exact hB.size
 have dX4_hA : g ≠ X4 := by have := hA.lt; omega
 have dX4_hR : g + 1 ≠ X4 := by have := hR.lt; omega
 have EV4 := Lib.hid (And.intro eV eX)
 clear eV eX
 go_upto_region 2 with fail
 rw [← EV4.out.1, ← EV4.out.2]
 replace q1 := q1.below bV4
 replace hA := hA.below bV4 hA.lt
 replace hR := hR.below bV4 hR.lt
 replace q3 := q3.below bV4
 replace hB := hB.trans (bV4.mono hB.size)
 clear c9 c10 c11 c12 c13 c14 c15 c16 c17
 obtain ⟨c18, c19, c20⟩ := hA.q3
 obtain ⟨c21, c22, c23, c24, c25, c26⟩ := hR.q6
 obtain ⟨c27, c28, c29⟩ := hV.q3
 go_wp2_with fail
 refine (hO _).mono ?_
 rintro e w6 ⟨v4, rfl, q4, b6⟩
 replace q1 := q1.below b6
 replace hA := hA.below b6 hA.lt
 replace hR := hR.below b6 hR.lt
 replace q3 := q3.below b6
 replace hV := hV.below b6 hV.lt
 replace hB := hB.trans (b6.mono hB.size)
 clear c18 c19 c20 c21 c22 c23 c24 c25 c26 c27 c28 c29
 obtain ⟨c30, c31, c32⟩ := hA.q3
 obtain ⟨c33, c34, c35, c36, c37, c38⟩ := hR.q6
 obtain ⟨c39, c40, c41⟩ := hV.q3
 obtain ⟨s4, A4, L4, C4, D4, M4, E4, rfl, q4⟩ := q4.opn
 obtain ⟨V8, eV, hX, bV8⟩ := box1 w6 32 #[.bool s4, .slice A4 L4 C4, .slice D4 M4 E4]
 obtain ⟨X8, eX⟩ : ∃ X, X = w6.heap.size := ⟨_, rfl⟩
 rw [← eX] at hX
 have lX8 : w.heap.size ≤ X8 := by rw [eX]; exact hB.size
 have dX8_hA : g ≠ X8 := by have := hA.lt; omega
 have dX8_hR : g + 1 ≠ X8 := by have := hR.lt; omega
 have dX8_hV : X4 ≠ X8 := by have := hV.lt; omega
 have EV8 := Lib.hid (And.intro eV eX)
 clear eV eX
 go_upto_region 3 with fail
 rw [← EV8.out.1, ← EV8.out.2]
 replace q1 := q1.below bV8
 replace hA := hA.below bV8 hA.lt
 replace hR := hR.below bV8 hR.lt
 replace q3 := q3.below bV8
 replace hV := hV.below bV8 hV.lt
 replace q4 := q4.below bV8
 replace hB := hB.trans (bV8.mono hB.size)
 clear c30 c31 c32 c33 c34 c35 c36 c37 c38 c39 c40 c41
 obtain ⟨c42, c43, c44⟩ := hA.q3
 obtain ⟨c45, c46, c47, c48, c49, c50⟩ := hR.q6
 obtain ⟨c51, c52, c53⟩ := hV.q3
 obtain ⟨c54, c55, c56⟩ := hX.q3
 go_wp2_with fail
 refine (hMu _ _ _ q1 q4).mono ?_
 rintro e w10 ⟨v5, rfl, q5, b10⟩
 replace q1 := q1.below b10
 replace hA := hA.below b10 hA.lt
 replace hR := hR.below b10 hR.lt
 replace q3 := q3.below b10
 replace hV := hV.below b10 hV.lt
 replace q4 := q4.below b10
 replace hX := hX.below b10 hX.lt
 replace hB := hB.trans (b10.mono hB.size)
 clear c42 c43 c44 c45 c46 c47 c48 c49 c50 c51 c52 c53 c54 c55 c56
 obtain ⟨c57, c58, c59⟩ := hA.q3
 obtain ⟨c60, c61, c62, c63, c64, c65⟩ := hR.q6
 obtain ⟨c66, c67, c68⟩ := hV.q3
 obtain ⟨c69, c70, c71⟩ := hX.q3
 obtain ⟨s5, A5, L5, C5, D5, M5, E5, rfl, q5⟩ := q5.opn
 obtain ⟨V12, eV, hU, bV12⟩ := box1 w10 32 #[.bool s5, .slice A5 L5 C5, .slice D5 M5 E5]
 obtain ⟨X12, eX⟩ : ∃ X, X = w10.heap.size := ⟨_, rfl⟩
 rw [← eX] at hU
 have lX12 : w.heap.size ≤ X12 := by rw [eX]; exact hB.size
 have dX12_hA : g ≠ X12 := by have := hA.lt; omega
 have dX12_hR : g + 1 ≠ X12 := by have := hR.lt; omega
 have dX12_hV : X4 ≠ X12 := by have := hV.lt; omega
 have dX12_hX : X8 ≠ X12 := by have := hX.lt; omega
 have EV12 := Lib.hid (And.intro eV eX)
 clear eV eX
 go_upto_region 6 with fail
 rw [← EV12.out.1, ← EV12.out.2]
 replace q1 := q1.below bV12
 replace hA := hA.below bV12 hA.lt
 replace hR := hR.below bV12 hR.lt
 replace q3 := q3.below bV12
 replace hV := hV.below bV12 hV.lt
 replace q4 := q4.below bV12
 replace hX := hX.below bV12 hX.lt
 replace q5 := q5.below bV12
 replace hB := hB.trans (bV12.mono hB.size)
 clear c57 c58 c59 c60 c61 c62 c63 c64 c65 c66 c67 c68 c69 c70 c71
 obtain ⟨c72, c73, c74⟩ := hA.q3
 obtain ⟨c75, c76, c77, c78, c79, c80⟩ := hR.q6
 obtain ⟨c81, c82, c83⟩ := hV.q3
 obtain ⟨c84, c85, c86⟩ := hX.q3
 obtain ⟨c87, c88, c89⟩ := hU.q3
 replace hB := hB.drew
 replace q1 := q1.below (bdrew _)
 replace hA := hA.drew
 replace hR := hR.drew
 replace q3 := q3.below (bdrew _)
 replace hV := hV.drew
 replace q4 := q4.below (bdrew _)
 replace hX := hX.drew
 replace q5 := q5.below (bdrew _)
 replace hU := hU.drew
 clear c72 c73 c74 c75 c76 c77 c78 c79 c80 c81 c82 c83 c84 c85 c86 c87 c88 c89
 refine wp_region_noPanic ?_
 refine wp_region_held_drew (S := fun w' => w'.cell? ⟨X4, 0, none⟩ = some (.bool s3) ∧ w'.cell? ⟨X4, 1, none⟩ = some (.slice A3 L3 C3) ∧ w'.cell? ⟨X4, 2, none⟩ = some (.slice D3 M3 E3) ∧ w'.cell? ⟨X12, 0, none⟩ = some (.bool s5) ∧ w'.cell? ⟨X12, 1, none⟩ = some (.slice A5 L5 C5) ∧ w'.cell? ⟨X12, 2, none⟩ = some (.slice D5 M5 E5)) (by kernel_rfl) ?_ (fun hHeld => ?_)
 · exact ⟨hV.cell 0, hV.cell 1, hV.cell 2, hU.cell 0, hU.cell 1, hU.cell 2⟩
 obtain ⟨wd6_1, hwd⟩ : ∃ q, q = V12.drew := ⟨_, rfl⟩
 rw [← hwd] at hB q1 hA hR q3 hV q4 hX q5 hU hHeld ⊢
 clear hwd
 refine tkH 0 rfl (v := ?v10) ?h10 ?r10
 case h10 => intro w hSw; (try dsimp only at hSw); go_simp; try (with_reducible rfl)
 refine tkH 1 rfl (v := ?v11) ?h11 ?r11
 case h11 => intro w hSw; (try dsimp only at hSw); go_simp; try (with_reducible rfl)
 refine tkH 3 rfl (v := ?v12) ?h12 ?r12
 case h12 => intro w hSw; (try dsimp only at hSw); go_simp; try (with_reducible rfl)
 refine tkH 4 rfl (v := ?v13) ?h13 ?r13
 case h13 => intro w hSw; (try dsimp only at hSw); go_simp; try (with_reducible rfl)
 try simp only [Act.put, lay1, lay2, lay3, lay4, lay5, lay6]
 refine wpAnyH_ready (rs := [2]) (by kernel_rfl) (by simp) (AllReadyH.cons rfl (fun K hK => ?_) AllReadyH.nil)
 go_simp
 refine (hSu _ _ _ q3 q5).mono ?_
 rintro e u6_1 ⟨v6, rfl, q6, b6_1⟩
 replace q1 := q1.below b6_1
 replace hA := hA.below b6_1 hA.lt
 replace hR := hR.below b6_1 hR.lt
 replace q3 := q3.below b6_1
 replace hV := hV.below b6_1 hV.lt
 replace q4 := q4.below b6_1
 replace hX := hX.below b6_1 hX.lt
 replace q5 := q5.below b6_1
 replace hU := hU.below b6_1 hU.lt
 replace hB := hB.trans (b6_1.mono hB.size)
 obtain ⟨s6, A6, L6, C6, D6, M6, E6, rfl, q6⟩ := q6.opn
 go_wp2_with fail
 refine hK.out _ _ ?_ (fun hHeld => ?_)
 · exact ⟨hV.cell 0, hV.cell 1, hV.cell 2, hU.cell 0, hU.cell 1, hU.cell 2⟩
 clear hK K
 try simp only [Act.put, lay1, lay2, lay3, lay4, lay5, lay6]
 refine wpAnyH_ready (rs := [5]) (by kernel_rfl) (by simp) (AllReadyH.cons rfl (fun K hK => ?_) AllReadyH.nil)
 go_simp
 refine (hAd _ _ _ q3 q5).mono ?_
 rintro e u6_2 ⟨v7, rfl, q7, b6_2⟩
 replace q1 := q1.below b6_2
 replace hA := hA.below b6_2 hA.lt
 replace hR := hR.below b6_2 hR.lt
 replace q3 := q3.below b6_2
 replace hV := hV.below b6_2 hV.lt
 replace q4 := q4.below b6_2
 replace hX := hX.below b6_2 hX.lt
 replace q5 := q5.below b6_2
 replace hU := hU.below b6_2 hU.lt
 replace q6 := q6.below b6_2
 replace hB := hB.trans (b6_2.mono hB.size)
 obtain ⟨s7, A7, L7, C7, D7, M7, E7, rfl, q7⟩ := q7.opn
 go_wp2_with fail
 refine hK.out _ _ ?_ (fun hHeld => ?_)
 · exact ⟨hV.cell 0, hV.cell 1, hV.cell 2, hU.cell 0, hU.cell 1, hU.cell 2⟩
 clear hK K
 refine tkH 6 rfl (v := ?v14) ?h14 ?r14
 case h14 => intro w hSw; (try dsimp only at hSw); go_simp; try (with_reducible rfl)
 try simp only [Act.put, lay1, lay2, lay3, lay4, lay5, lay6]
 refine wpAnyH_ready (rs := [7]) (by kernel_rfl) (by simp) (AllReadyH.cons rfl (fun K hK => ?_) AllReadyH.nil)
 obtain ⟨u6_3, eu, hR', kz, kb, kB⟩ := fill6 hR (.bool s6) (.slice A6 L6 C6) (.slice D6 M6 E6) (.bool s7) (.slice A7 L7 C7) (.slice D7 M7 E7) (by simp [noU])
 have x0 : World.cell? _ ⟨g + 1, 0, none⟩ = some (.bool false) := hR.cell 0
 have x1 : World.cell? _ ⟨g + 1, 1, none⟩ = some (.slice none 0 0) := hR.cell 1
 have x2 : World.cell? _ ⟨g + 1, 2, none⟩ = some (.slice none 0 0) := hR.cell 2
 have x3 : World.cell? _ ⟨g + 1, 3, none⟩ = some (.bool false) := hR.cell 3
 have x4 : World.cell? _ ⟨g + 1, 4, none⟩ = some (.slice none 0 0) := hR.cell 4
 have x5 : World.cell? _ ⟨g + 1, 5, none⟩ = some (.slice none 0 0) := hR.cell 5
 have xf := hR.frozen
 go_simp
 rw [← eu]
 replace q1 := q1.filled kz
 replace hA := kb _ _ _ hA (by omega)
 replace q3 := q3.filled kz
 replace hV := kb _ _ _ hV (by omega)
 replace q4 := q4.filled kz
 replace hX := kb _ _ _ hX (by omega)
 replace q5 := q5.filled kz
 replace hU := kb _ _ _ hU (by omega)
 replace q6 := q6.filled kz
 replace q7 := q7.filled kz
 replace hB := kB _ _ (by omega) hB
 replace hR := hR'
 clear hR' kz kb kB eu xf x0 x1 x2 x3 x4 x5
 refine hK.out _ _ ?_ (fun hHeld => ?_)
 · exact ⟨hV.cell 0, hV.cell 1, hV.cell 2, hU.cell 0, hU.cell 1, hU.cell 2⟩
 clear hK K
 refine tkH 8 rfl (v := ?v15) ?h15 ?r15
 case h15 => intro w hSw; (try dsimp only at hSw); go_simp; try (with_reducible rfl)
 try simp only [Act.put, lay1, lay2, lay3, lay4, lay5, lay6]
 try dsimp only
 try simp only [Act.put, lay1, lay2, lay3, lay4, lay5, lay6]
 refine wpAnyH_done (by kernel_rfl) ?_ _
 refine NoPanic.normal ?_
 skip
 obtain ⟨c90, c91, c92⟩ := hA.q3
 obtain ⟨c93, c94, c95, c96, c97, c98⟩ := hR.q6
 obtain ⟨c99, c100, c101⟩ := hV.q3
 obtain ⟨c102, c103, c104⟩ := hX.q3
 obtain ⟨c105, c106, c107⟩ := hU.q3
 go_wp2_with fail
 exact bodyPost_ret (v := .tuple #[.agg #[.bool s6, .slice A6 L6 C6, .slice D6 M6 E6, .bool s7, .slice A7 L7 C7, .slice D7 M7 E7], .int .i64 0]) (by simp [results, Tryz.results20, go_sem, c93, c94, c95, c96, c97, c98]) rfl ⟨_, rfl, ⟨_, _, _, _, _, _, rfl, q6, q7⟩, hB⟩
set_option maxRecDepth 100000 in
set_option maxHeartbeats 8000000 in
theorem raround_b0 (n f : Int) (va : Value) (a : Rat) (w : World) (ha : IsQ w va a) (hf : f < 0 ∨ 40 < f) :
   Calls Tryz.prog 20 #[.int .i64 n, .int .i64 f, va] w fun e w' => e = .returned (.tuple #[.agg #[.bool false, .slice none 0 0, .slice none 0 0, .bool false, .slice none 0 0, .slice none 0 0], .int .i64 1]) ∧ Below w.heap.size w w' := by
 obtain ⟨s1, A1, L1, C1, D1, M1, E1, rfl, q1⟩ := ha.opn
 have hN := fun w => rrat_bad n f w hf
 have hO := fun w => rrat_bad 1 f w hf
 clear hf
 clear ha q1
 obtain ⟨g, hg⟩ : ∃ g, g = w.heap.size := ⟨_, rfl⟩
 obtain ⟨Y0, eY0, hA, bY0⟩ := box1 w 32 #[.bool s1, .slice A1 L1 C1, .slice D1 M1 E1]
 have zY0 : Y0.heap.size = g + 1 := by rw [eY0, World.size_alloc, ← hg]
 rw [← hg] at hA
 have hB := bY0
 obtain ⟨Y1, eY1, hR, bY1⟩ := box1 Y0 46 #[.bool false, .slice none 0 0, .slice none 0 0, .bool false, .slice none 0 0, .slice none 0 0]
 have zY1 : Y1.heap.size = g + 1 + 1 := by rw [eY1, World.size_alloc, zY0]
 rw [zY0] at hR
 replace hA := hA.below bY1 hA.lt
 replace hB := hB.trans (bY1.mono hB.size)
 have hgw : w.heap.size ≤ g := by omega
 have EY := Lib.hid (And.intro hg (And.intro eY0 eY1))
 clear hg eY0 zY0 eY1 zY1
 obtain ⟨c0, c1, c2⟩ := hA.q3
 obtain ⟨c3, c4, c5, c6, c7, c8⟩ := hR.q6
 go_enter Tryz.func20, Tryz.ntmps20
 go_wp2_with fail
 rw [← EY.out.2.1, ← EY.out.2.2, ← EY.out.1]
 refine (hN _).mono ?_
 rintro e w2 ⟨rfl, b2⟩
 replace hA := hA.below b2 hA.lt
 replace hR := hR.below b2 hR.lt
 replace hB := hB.trans (b2.mono hB.size)
 clear c0 c1 c2 c3 c4 c5 c6 c7 c8
 obtain ⟨c9, c10, c11⟩ := hA.q3
 obtain ⟨c12, c13, c14, c15, c16, c17⟩ := hR.q6
 obtain ⟨V4, eV, hV, bV4⟩ := box1 w2 32 #[.bool false, .slice none 0 0, .slice none 0 0]
 obtain ⟨X4, eX⟩ : ∃ X, X = w2.heap.size := ⟨_, rfl⟩
 rw [← eX] at hV
 have lX4 : w.heap.size ≤ X4 := by rw [eX]; exact hB.size
 have dX4_hA : g ≠ X4 := by have := hA.lt; omega
 have dX4_hR : g + 1 ≠ X4 := by have := hR.lt; omega
 have EV4 := Lib.hid (And.intro eV eX)
 clear eV eX
 go_upto_region 2 with fail
 rw [← EV4.out.1, ← EV4.out.2]
 replace hA := hA.below bV4 hA.lt
 replace hR := hR.below bV4 hR.lt
 replace hB := hB.trans (bV4.mono hB.size)
 clear c9 c10 c11 c12 c13 c14 c15 c16 c17
 obtain ⟨c18, c19, c20⟩ := hA.q3
 obtain ⟨c21, c22, c23, c24, c25, c26⟩ := hR.q6
 obtain ⟨c27, c28, c29⟩ := hV.q3
 go_wp2_with fail
 refine (hO _).mono ?_
 rintro e w6 ⟨rfl, b6⟩
 replace hA := hA.below b6 hA.lt
 replace hR := hR.below b6 hR.lt
 replace hV := hV.below b6 hV.lt
 replace hB := hB.trans (b6.mono hB.size)
 clear c18 c19 c20 c21 c22 c23 c24 c25 c26 c27 c28 c29
 obtain ⟨c30, c31, c32⟩ := hA.q3
 obtain ⟨c33, c34, c35, c36, c37, c38⟩ := hR.q6
 obtain ⟨c39, c40, c41⟩ := hV.q3
 obtain ⟨V8, eV, hX, bV8⟩ := box1 w6 32 #[.bool false, .slice none 0 0, .slice none 0 0]
 obtain ⟨X8, eX⟩ : ∃ X, X = w6.heap.size := ⟨_, rfl⟩
 rw [← eX] at hX
 have lX8 : w.heap.size ≤ X8 := by rw [eX]; exact hB.size
 have dX8_hA : g ≠ X8 := by have := hA.lt; omega
 have dX8_hR : g + 1 ≠ X8 := by have := hR.lt; omega
 have dX8_hV : X4 ≠ X8 := by have := hV.lt; omega
 have EV8 := Lib.hid (And.intro eV eX)
 clear eV eX
 go_upto_region 3 with fail
 rw [← EV8.out.1, ← EV8.out.2]
 replace hA := hA.below bV8 hA.lt
 replace hR := hR.below bV8 hR.lt
 replace hV := hV.below bV8 hV.lt
 replace hB := hB.trans (bV8.mono hB.size)
 clear c30 c31 c32 c33 c34 c35 c36 c37 c38 c39 c40 c41
 obtain ⟨c42, c43, c44⟩ := hA.q3
 obtain ⟨c45, c46, c47, c48, c49, c50⟩ := hR.q6
 obtain ⟨c51, c52, c53⟩ := hV.q3
 obtain ⟨c54, c55, c56⟩ := hX.q3
 go_upto_region 4 with fail
 obtain ⟨p1, p2, p3⟩ := put6 hR (.bool false) (.slice none 0 0) (.slice none 0 0) (.bool false) (.slice none 0 0) (.slice none 0 0) (by simp [noU]) hB (by omega)
 have rc0 : World.cell? _ ⟨g + 1, 0, none⟩ = some (.bool false) := hR.cell 0
 have rf0 := hR.frozen 0
 have rc1 : World.cell? _ ⟨g + 1, 1, none⟩ = some (.slice none 0 0) := hR.cell 1
 have rf1 := hR.frozen 1
 have rc2 : World.cell? _ ⟨g + 1, 2, none⟩ = some (.slice none 0 0) := hR.cell 2
 have rf2 := hR.frozen 2
 have rc3 : World.cell? _ ⟨g + 1, 3, none⟩ = some (.bool false) := hR.cell 3
 have rf3 := hR.frozen 3
 have rc4 : World.cell? _ ⟨g + 1, 4, none⟩ = some (.slice none 0 0) := hR.cell 4
 have rf4 := hR.frozen 4
 have rc5 : World.cell? _ ⟨g + 1, 5, none⟩ = some (.slice none 0 0) := hR.cell 5
 have rf5 := hR.frozen 5
 have P := Lib.hid (And.intro trivial (And.intro p3 p1.cells6))
 clear p1 p2 p3
 go_wp2_with fail
 obtain ⟨P1, P2, P3, P4, P5, P6, P7, P8⟩ := P.out
 exact bodyPost_ret (v := .tuple #[.agg #[.bool false, .slice none 0 0, .slice none 0 0, .bool false, .slice none 0 0, .slice none 0 0], .int .i64 1]) (by simp [results, Tryz.results20, go_sem, P3, P4, P5, P6, P7, P8]) rfl ⟨rfl, P2⟩
set_option maxRecDepth 100000 in
set_option maxHeartbeats 8000000 in
theorem raround_b1 (n f : Int) (va : Value) (a : Rat) (w : World) (ha : IsQ w va a) (hf0 : 0 ≤ f) (hf1 : f ≤ 40) (hb : In64 n) (na : decide (a.num < 0) = true) :
   Calls Tryz.prog 20 #[.int .i64 n, .int .i64 f, va] w fun e w' => e = .returned (.tuple #[.agg #[.bool false, .slice none 0 0, .slice none 0 0, .bool false, .slice none 0 0, .slice none 0 0], .int .i64 1]) ∧ Below w.heap.size w w' := by
 obtain ⟨s1, A1, L1, C1, D1, M1, E1, rfl, q1⟩ := ha.opn
 obtain ⟨k, rfl⟩ : ∃ k : Nat, f = (k : Int) := ⟨f.toNat, by omega⟩
 have hk : k ≤ 40 := by omega
 have hN := fun w => rrat_any n k w hk hb
 have hO := fun w => rrat_any 1 k w hk ⟨by omega, by omega⟩
 generalize mkRat n (2 ^ k) = x at *
 generalize mkRat 1 (2 ^ k) = st at *
 obtain rfl : s1 = true := by rw [q1.parts.1]; exact na
 clear na hb hf0 hf1
 clear ha q1
 obtain ⟨g, hg⟩ : ∃ g, g = w.heap.size := ⟨_, rfl⟩
 obtain ⟨Y0, eY0, hA, bY0⟩ := box1 w 32 #[.bool true, .slice A1 L1 C1, .slice D1 M1 E1]
 have zY0 : Y0.heap.size = g + 1 := by rw [eY0, World.size_alloc, ← hg]
 rw [← hg] at hA
 have hB := bY0
 obtain ⟨Y1, eY1, hR, bY1⟩ := box1 Y0 46 #[.bool false, .slice none 0 0, .slice none 0 0, .bool false, .slice none 0 0, .slice none 0 0]
 have zY1 : Y1.heap.size = g + 1 + 1 := by rw [eY1, World.size_alloc, zY0]
 rw [zY0] at hR
 replace hA := hA.below bY1 hA.lt
 replace hB := hB.trans (bY1.mono hB.size)
 have hgw : w.heap.size ≤ g := by omega
 have EY := Lib.hid (And.intro hg (And.intro eY0 eY1))
 clear hg eY0 zY0 eY1 zY1
 obtain ⟨c0, c1, c2⟩ := hA.q3
 obtain ⟨c3, c4, c5, c6, c7, c8⟩ := hR.q6
 go_enter Tryz.func20, Tryz.ntmps20
 go_wp2_with fail
 rw [← EY.out.2.1, ← EY.out.2.2, ← EY.out.1]
 refine (hN _).mono ?_
 rintro e w2 ⟨v3, rfl, q3, b2⟩
 replace hA := hA.below b2 hA.lt
 replace hR := hR.below b2 hR.lt
 replace hB := hB.trans (b2.mono hB.size)
 clear c0 c1 c2 c3 c4 c5 c6 c7 c8
 obtain ⟨c9, c10, c11⟩ := hA.q3
 obtain ⟨c12, c13, c14, c15, c16, c17⟩ := hR.q6
 obtain ⟨s3, A3, L3, C3, D3, M3, E3, rfl, q3⟩ := q3.opn
 obtain ⟨V4, eV, hV, bV4⟩ := box1 w2 32 #[.bool s3, .slice A3 L3 C3, .slice D3 M3 E3]
 obtain ⟨X4, eX⟩ : ∃ X, X = w2.heap.size := ⟨_, rfl⟩
 rw [← eX] at hV
 have lX4 : w.heap.size ≤ X4 := by rw [eX]; exact hB.size
 have dX4_hA : g ≠ X4 := by have := hA.lt; omega
 have dX4_hR : g + 1 ≠ X4 := by have := hR.lt; omega
 have EV4 := Lib.hid (And.intro eV eX)
 clear eV eX
 go_upto_region 2 with fail
 rw [← EV4.out.1, ← EV4.out.2]
 replace hA := hA.below bV4 hA.lt
 replace hR := hR.below bV4 hR.lt
 replace q3 := q3.below bV4
 replace hB := hB.trans (bV4.mono hB.size)
 clear c9 c10 c11 c12 c13 c14 c15 c16 c17
 obtain ⟨c18, c19, c20⟩ := hA.q3
 obtain ⟨c21, c22, c23, c24, c25, c26⟩ := hR.q6
 obtain ⟨c27, c28, c29⟩ := hV.q3
 go_wp2_with fail
 refine (hO _).mono ?_
 rintro e w6 ⟨v4, rfl, q4, b6⟩
 replace hA := hA.below b6 hA.lt
 replace hR := hR.below b6 hR.lt
 replace q3 := q3.below b6
 replace hV := hV.below b6 hV.lt
 replace hB := hB.trans (b6.mono hB.size)
 clear c18 c19 c20 c21 c22 c23 c24 c25 c26 c27 c28 c29
 obtain ⟨c30, c31, c32⟩ := hA.q3
 obtain ⟨c33, c34, c35, c36, c37, c38⟩ := hR.q6
 obtain ⟨c39, c40, c41⟩ := hV.q3
 obtain ⟨s4, A4, L4, C4, D4, M4, E4, rfl, q4⟩ := q4.opn
 obtain ⟨V8, eV, hX, bV8⟩ := box1 w6 32 #[.bool s4, .slice A4 L4 C4, .slice D4 M4 E4]
 obtain ⟨X8, eX⟩ : ∃ X, X = w6.heap.size := ⟨_, rfl⟩
 rw [← eX] at hX
 have lX8 : w.heap.size ≤ X8 := by rw [eX]; exact hB.size
 have dX8_hA : g ≠ X8 := by have := hA.lt; omega
 have dX8_hR : g + 1 ≠ X8 := by have := hR.lt; omega
 have dX8_hV : X4 ≠ X8 := by have := hV.lt; omega
 have EV8 := Lib.hid (And.intro eV eX)
 clear eV eX
 go_upto_region 3 with fail
 rw [← EV8.out.1, ← EV8.out.2]
 replace hA := hA.below bV8 hA.lt
 replace hR := hR.below bV8 hR.lt
 replace q3 := q3.below bV8
 replace hV := hV.below bV8 hV.lt
 replace q4 := q4.below bV8
 replace hB := hB.trans (bV8.mono hB.size)
 clear c30 c31 c32 c33 c34 c35 c36 c37 c38 c39 c40 c41
 obtain ⟨c42, c43, c44⟩ := hA.q3
 obtain ⟨c45, c46, c47, c48, c49, c50⟩ := hR.q6
 obtain ⟨c51, c52, c53⟩ := hV.q3
 obtain ⟨c54, c55, c56⟩ := hX.q3
 go_upto_region 4 with fail
 obtain ⟨p1, p2, p3⟩ := put6 hR (.bool false) (.slice none 0 0) (.slice none 0 0) (.bool false) (.slice none 0 0) (.slice none 0 0) (by simp [noU]) hB (by omega)
 have rc0 : World.cell? _ ⟨g + 1, 0, none⟩ = some (.bool false) := hR.cell 0
 have rf0 := hR.frozen 0
 have rc1 : World.cell? _ ⟨g + 1, 1, none⟩ = some (.slice none 0 0) := hR.cell 1
 have rf1 := hR.frozen 1
 have rc2 : World.cell? _ ⟨g + 1, 2, none⟩ = some (.slice none 0 0) := hR.cell 2
 have rf2 := hR.frozen 2
 have rc3 : World.cell? _ ⟨g + 1, 3, none⟩ = some (.bool false) := hR.cell 3
 have rf3 := hR.frozen 3
 have rc4 : World.cell? _ ⟨g + 1, 4, none⟩ = some (.slice none 0 0) := hR.cell 4
 have rf4 := hR.frozen 4
 have rc5 : World.cell? _ ⟨g + 1, 5, none⟩ = some (.slice none 0 0) := hR.cell 5
 have rf5 := hR.frozen 5
 have P := Lib.hid (And.intro trivial (And.intro p3 p1.cells6))
 clear p1 p2 p3
 go_wp2_with fail
 obtain ⟨P1, P2, P3, P4, P5, P6, P7, P8⟩ := P.out
 exact bodyPost_ret (v := .tuple #[.agg #[.bool false, .slice none 0 0, .slice none 0 0, .bool false, .slice none 0 0, .slice none 0 0], .int .i64 1]) (by simp [results, Tryz.results20, go_sem, P3, P4, P5, P6, P7, P8]) rfl ⟨rfl, P2⟩
end Go.Proofs.YtdnjdglekifhpaaGreat
namespace Go.Proofs.YtdnjdglekifhpaaGreat
open Go.RowKit
def ResQ (bad : Bool) (r : Rat) (w : World) (v : Value) : Prop := if bad = true then v = .agg #[.bool false, .slice none 0 0, .slice none 0 0] else IsQ w v r
def ResS (bad : Bool) (a b : Rat) (w : World) (v : Value) : Prop := if bad = true then v = .agg #[.bool false, .slice none 0 0, .slice none 0 0, .bool false, .slice none 0 0, .slice none 0 0] else IsS w v a b
def errOf (bad : Bool) : Int := if bad = true then 1 else 0
section
variable {bad : Bool} {r a b : Rat} {w w' : World} {v : Value}
theorem ResQ.below (h : ResQ bad r w v) (hb : Below w.heap.size w w') : ResQ bad r w' v := by
 unfold ResQ at *; split
 · rename_i e; rw [if_pos e] at h; exact h
 · rename_i e; rw [if_neg e] at h; exact h.below hb
theorem ResS.below (h : ResS bad a b w v) (hb : Below w.heap.size w w') : ResS bad a b w' v := by
 unfold ResS at *; split
 · rename_i e; rw [if_pos e] at h; exact h
 · rename_i e; rw [if_neg e] at h; exact h.below hb
theorem ResQ.opn (h : ResQ bad r w v) : ∃ s A L C D M E, v = .agg #[.bool s, .slice A L C, .slice D M E] ∧ ResQ bad r w (.agg #[.bool s, .slice A L C, .slice D M E]) := by
 unfold ResQ at *
 split
 · rename_i e; rw [if_pos e] at h; exact ⟨_, _, _, _, _, _, _, h, rfl⟩
 · rename_i e; rw [if_neg e] at h; exact h.opn
theorem ResS.opn (h : ResS bad a b w v) : ∃ s A L C D M E t A' L' C' D' M' E', v = .agg #[.bool s, .slice A L C, .slice D M E, .bool t, .slice A' L' C', .slice D' M' E'] ∧ ResS bad a b w (.agg #[.bool s, .slice A L C, .slice D M E, .bool t, .slice A' L' C', .slice D' M' E']) := by
 unfold ResS at *
 split
 · rename_i e; rw [if_pos e] at h; exact ⟨_, _, _, _, _, _, _, _, _, _, _, _, _, _, h, rfl⟩
 · rename_i e; rw [if_neg e] at h
   obtain ⟨s, A, L, C, D, M, E, t, A', L', C', D', M', E', e1, h1, h2⟩ := h.opn
   exact ⟨s, A, L, C, D, M, E, t, A', L', C', D', M', E', e1, _, _, _, _, _, _, rfl, h1, h2⟩
theorem rqsame_res {u : Value} (hu : ResQ bad r w u) (hv : ResQ bad r w v) :
   Calls Tryz.prog 21 #[u, v] w fun e w' => e = .returned (.bool true) ∧ Below w.heap.size w w' := by
 unfold ResQ at *
 split at hu
 · rename_i e; rw [if_pos e] at hv; subst hu; subst hv; exact rqsame_zero w
 · rename_i e; rw [if_neg e] at hv
   have := rqsame_any u v r r w hu hv
   rwa [decide_eq_true rfl] at this
theorem rssame_res {u : Value} (hu : ResS bad a b w u) (hv : ResS bad a b w v) :
   Calls Tryz.prog 22 #[u, v] w fun e w' => e = .returned (.bool true) ∧ Below w.heap.size w w' := by
 unfold ResS at *
 split at hu
 · rename_i e; rw [if_pos e] at hv; subst hu; subst hv; exact rssame_zero w
 · rename_i e; rw [if_neg e] at hv
   have := rssame_any u v a b a b w hu hv
   rwa [decide_eq_true rfl, decide_eq_true rfl, Bool.true_and] at this
end
theorem nextBad_no {beta f : Int} {a m : Rat} (h : nextBad beta f a m = false) : 0 ≤ f ∧ f ≤ 40 ∧ 0 ≤ beta ∧ ¬ (2 : Int) ^ f.toNat < beta ∧ decide (a.num < 0) = false ∧ decide (m.num < 0) = false := by
 unfold nextBad at h
 simp only [Bool.or_eq_false_iff, decide_eq_false_iff_not] at h
 obtain ⟨⟨⟨⟨h1, h2⟩, h3⟩, h4⟩, h5⟩ := h
 exact ⟨by omega, by omega, by omega, h3, decide_eq_false h4, decide_eq_false h5⟩
def arBad (f : Int) (a : Rat) : Bool := decide (f < 0 ∨ 40 < f) || decide (a.num < 0)
theorem arBad_no {f : Int} {a : Rat} (h : arBad f a = false) : 0 ≤ f ∧ f ≤ 40 ∧ decide (a.num < 0) = false := by
 unfold arBad at h
 simp only [Bool.or_eq_false_iff, decide_eq_false_iff_not] at h
 exact ⟨by omega, by omega, decide_eq_false h.2⟩
section
variable (beta f : Int) (va vm : Value) (a m : Rat) (w : World)
theorem pnext_res (hb : In64 beta) (ha : IsQ w va a) (hm : IsQ w vm m) (sa : BQ a 2000) (sm : BQ m 2000) :
   Calls Tryz.prog 17 #[.int .i64 beta, .int .i64 f, va, vm] w fun e w' => ∃ v', e = .returned (.tuple #[v', .int .i64 (errOf (nextBad beta f a m))]) ∧ ResQ (nextBad beta f a m) (nextQ beta f.toNat a m) w' v' ∧ Below w.heap.size w w' := by
 cases h : nextBad beta f a m
 · obtain ⟨h1, h2, h3, h4, h5, h6⟩ := nextBad_no h
   obtain ⟨k, rfl⟩ : ∃ k : Nat, f = (k : Int) := ⟨f.toNat, by omega⟩
   rw [Int.toNat_natCast] at *
   have hP : ((2 ^ k : Nat) : Int) = (2 : Int) ^ k := by simp
   refine (pnext_any beta k va vm a m w (by omega) hb h3 (by rw [hP]; omega) ha hm sa sm h5 h6).mono ?_
   rintro e w' ⟨v', rfl, q, b⟩
   exact ⟨v', rfl, by unfold ResQ; rw [if_neg (by simp)]; exact q, b⟩
 · refine (pnext_bad beta f va vm a m w ha hm hb h).mono ?_
   rintro e w' ⟨rfl, b⟩
   exact ⟨_, rfl, by unfold ResQ; rw [if_pos rfl], b⟩
theorem rnext_res (hb : In64 beta) (ha : IsQ w va a) (hm : IsQ w vm m) (sa : BQ a 2000) (sm : BQ m 2000) :
   Calls Tryz.prog 18 #[.int .i64 beta, .int .i64 f, va, vm] w fun e w' => ∃ v', e = .returned (.tuple #[v', .int .i64 (errOf (nextBad beta f a m))]) ∧ ResQ (nextBad beta f a m) (nextQ beta f.toNat a m) w' v' ∧ Below w.heap.size w w' := by
 cases h : nextBad beta f a m
 · obtain ⟨h1, h2, h3, h4, h5, h6⟩ := nextBad_no h
   obtain ⟨k, rfl⟩ : ∃ k : Nat, f = (k : Int) := ⟨f.toNat, by omega⟩
   rw [Int.toNat_natCast] at *
   refine (rnext_any beta k va vm a m w (by omega) hb h3 h4 ha hm sa sm h5 h6).mono ?_
   rintro e w' ⟨v', rfl, q, b⟩
   exact ⟨v', rfl, by unfold ResQ; rw [if_neg (by simp)]; exact q, b⟩
 · refine (rnext_bad beta f va vm a m w ha hm hb h).mono ?_
   rintro e w' ⟨rfl, b⟩
   exact ⟨_, rfl, by unfold ResQ; rw [if_pos rfl], b⟩
theorem paround_res (hb : In64 beta) (ha : IsQ w va a) (sa : BQ a 2000) :
   Calls Tryz.prog 19 #[.int .i64 beta, .int .i64 f, va] w fun e w' => ∃ v', e = .returned (.tuple #[v', .int .i64 (errOf (arBad f a))]) ∧ ResS (arBad f a) (mkRat beta (2 ^ f.toNat) - a * mkRat 1 (2 ^ f.toNat)) (mkRat beta (2 ^ f.toNat) + a * mkRat 1 (2 ^ f.toNat)) w' v' ∧ Below w.heap.size w w' := by
 cases h : arBad f a
 · obtain ⟨h1, h2, h3⟩ := arBad_no h
   obtain ⟨k, rfl⟩ : ∃ k : Nat, f = (k : Int) := ⟨f.toNat, by omega⟩
   rw [Int.toNat_natCast] at *
   refine (paround_any beta k va a w (by omega) hb ha sa h3).mono ?_
   rintro e w' ⟨v', rfl, q, b⟩
   exact ⟨v', rfl, by unfold ResS; rw [if_neg (by simp)]; exact q, b⟩
 · unfold arBad at h
   have hz : Calls Tryz.prog 19 #[.int .i64 beta, .int .i64 f, va] w fun e w' => e = .returned (.tuple #[.agg #[.bool false, .slice none 0 0, .slice none 0 0, .bool false, .slice none 0 0, .slice none 0 0], .int .i64 1]) ∧ Below w.heap.size w w' := by
     by_cases h0 : f < 0 ∨ 40 < f
     · exact paround_b0 beta f va a w ha h0
     · rw [decide_eq_false h0, Bool.false_or] at h
       exact paround_b1 beta f va a w ha (by omega) (by omega) hb h
   refine hz.mono ?_
   rintro e w' ⟨rfl, b⟩
   exact ⟨_, rfl, by unfold ResS; rw [if_pos rfl], b⟩
theorem raround_res (hb : In64 beta) (ha : IsQ w va a) (sa : BQ a 2000) :
   Calls Tryz.prog 20 #[.int .i64 beta, .int .i64 f, va] w fun e w' => ∃ v', e = .returned (.tuple #[v', .int .i64 (errOf (arBad f a))]) ∧ ResS (arBad f a) (mkRat beta (2 ^ f.toNat) - a * mkRat 1 (2 ^ f.toNat)) (mkRat beta (2 ^ f.toNat) + a * mkRat 1 (2 ^ f.toNat)) w' v' ∧ Below w.heap.size w w' := by
 cases h : arBad f a
 · obtain ⟨h1, h2, h3⟩ := arBad_no h
   obtain ⟨k, rfl⟩ : ∃ k : Nat, f = (k : Int) := ⟨f.toNat, by omega⟩
   rw [Int.toNat_natCast] at *
   refine (raround_any beta k va a w (by omega) hb ha sa h3).mono ?_
   rintro e w' ⟨v', rfl, q, b⟩
   exact ⟨v', rfl, by unfold ResS; rw [if_neg (by simp)]; exact q, b⟩
 · unfold arBad at h
   have hz : Calls Tryz.prog 20 #[.int .i64 beta, .int .i64 f, va] w fun e w' => e = .returned (.tuple #[.agg #[.bool false, .slice none 0 0, .slice none 0 0, .bool false, .slice none 0 0, .slice none 0 0], .int .i64 1]) ∧ Below w.heap.size w w' := by
     by_cases h0 : f < 0 ∨ 40 < f
     · exact raround_b0 beta f va a w ha h0
     · rw [decide_eq_false h0, Bool.false_or] at h
       exact raround_b1 beta f va a w ha (by omega) (by omega) hb h
   refine hz.mono ?_
   rintro e w' ⟨rfl, b⟩
   exact ⟨_, rfl, by unfold ResS; rw [if_pos rfl], b⟩
end
end Go.Proofs.YtdnjdglekifhpaaGreat
namespace Go.Proofs.YtdnjdglekifhpaaGreat
open Go.RowKit
attribute [local go_sem ↓] Go.wp_at_zero Go.wp_at_succ
theorem IsL.frmL {w : World} {v : Value} {l : List Nat} (h : IsL w v l) : ∃ A C, v = .slice A l.length C ∧ l.length ≤ C ∧ C ≤ 9223372036854775807 := by
 obtain ⟨A, c, e, h1, h2, _⟩ := h; exact ⟨A, c, e, h1, h2⟩
def rightN (l : List Nat) : Bool := decide (l = [] ∨ lat l (l.length - 1) ≠ 0)
def rightQ (s : Bool) (lp lq : List Nat) : Bool := rightZ s lp && (rightN lq && (!decide (lq = []) && decide (Nat.gcd (num lp) (num lq) = 1)))
def fewQ (s : Bool) (lp lq : List Nat) (m : Nat) : Bool := decide (lp.length ≤ m) && (decide (lq.length ≤ m) && rightQ s lp lq)
def theQ (s : Bool) (lp lq : List Nat) : Rat := mkRat (sided s (num lp)) (num lq)
theorem isN_of {w : World} {v : Value} {l : List Nat} (h : IsL w v l) (hr : rightN l = true) : IsN w v (num l) ∧ limbs (num l) = l := by
 unfold rightN at hr
 rw [decide_eq_true_eq] at hr
 have hl : limbs (num l) = l := limbs_num l h.bd hr
 exact ⟨by unfold IsN; rw [hl]; exact h, hl⟩
theorem rightZ_nat {s : Bool} {l : List Nat} (h : rightZ s l = true) : rightN l = true := by
 unfold rightZ at h; rw [Bool.and_eq_true] at h; exact h.1
theorem sided_side {s : Bool} {l : List Nat} (hb : Bd l) (h : rightZ s l = true) : decide (sided s (num l) < 0) = s := by
 rw [sided_neg]
 cases s
 · rfl
 · have hr := rightZ_nat h
   unfold rightN at hr
   rw [decide_eq_true_eq] at hr
   have hl : limbs (num l) = l := limbs_num l hb hr
   unfold rightZ at h
   rw [Bool.and_eq_true] at h
   have h0 : l.length ≠ 0 := by have := h.2; simpa using this
   have : num l ≠ 0 := fun e => h0 (by rw [← hl, e, limbs_zero]; rfl)
   simp [this]
theorem isQ_of {w : World} {s : Bool} {p q : Value} {lp lq : List Nat} (hp : IsL w p lp) (hq : IsL w q lq) (hr : rightQ s lp lq = true) : IsQ w (.agg #[.bool s, p, q]) (theQ s lp lq) ∧ BQ (theQ s lp lq) (max lp.length lq.length) ∧ (theQ s lp lq).num = sided s (num lp) ∧ (theQ s lp lq).den = num lq := by
 unfold rightQ at hr
 simp only [Bool.and_eq_true, Bool.not_eq_true', decide_eq_false_iff_not, decide_eq_true_eq] at hr
 obtain ⟨h1, h2, h3, h4⟩ := hr
 obtain ⟨np, ep⟩ := isN_of hp (rightZ_nat h1)
 obtain ⟨nq, eq⟩ := isN_of hq h2
 have hq0 : num lq ≠ 0 := fun e => h3 (by rw [← eq, e, limbs_zero])
 have hs : (sided s (num lp)).natAbs = num lp := by unfold sided; split <;> omega
 obtain ⟨m1, m2, m3⟩ := mk_num (sided s (num lp)) (num lq) hq0
 rw [hs, h4, Nat.div_one] at m1
 rw [hs, h4, Nat.div_one] at m2
 rw [sided_side hp.bd h1] at m3
 have m4 : (theQ s lp lq).num = sided s (num lp) := by
   unfold theQ
   have h5 : decide (sided s (num lp) < 0) = s := sided_side hp.bd h1
   have h6 : decide ((mkRat (sided s (num lp)) (num lq)).num < 0) = decide (sided s (num lp) < 0) := by rw [m3, h5]
   have h7 : ((mkRat (sided s (num lp)) (num lq)).num < 0) ↔ (sided s (num lp) < 0) := by simpa using h6
   omega
 refine ⟨⟨p, q, ?_, ?_, ?_⟩, ⟨?_, ?_⟩, m4, m2⟩
 · unfold theQ; rw [m3]
 · unfold theQ; rw [m1]; exact np
 · unfold theQ; rw [m2]; exact nq
 · rw [m4, hs]; unfold Sz; rw [ep]; exact Nat.le_max_left _ _
 · unfold theQ; rw [m2]; unfold Sz; rw [eq]; exact Nat.le_max_right _ _
set_option maxRecDepth 100000 in
set_option maxHeartbeats 8000000 in
theorem rright5_any (s : Bool) (p q : Value) (lp lq : List Nat) (w : World) (hp : IsL w p lp) (hq : IsL w q lq) (np : lp.length ≤ 100000) (nq : lq.length ≤ 100000) :
   Calls Tryz.prog 49 #[.agg #[.bool s, p, q]] w fun e w' => e = .returned (.bool (rightQ s lp lq)) ∧ Below w.heap.size w w' := by
 have hZ := fun w h => rzright_any s p lp w h
 have hN := fun w h => rright_any q lq w h
 rw [show decide (lq = [] ∨ lat lq (lq.length - 1) ≠ 0) = rightN lq from rfl] at hN
 obtain ⟨A, C, rfl, _, _⟩ := id hp.frmL
 obtain ⟨D, E, rfl, _, _⟩ := id hq.frmL
 have j0 : decide (lq = []) = decide ((lq.length : Int) = 0) := by cases lq <;> simp; omega
 unfold rightQ
 cases hz : rightZ s lp
 · rw [hz] at hZ
   rw [Bool.false_and]
   clear hz j0 hN
   obtain ⟨g, hg⟩ : ∃ g, g = w.heap.size := ⟨_, rfl⟩
   obtain ⟨Y0, eY0, hA, bY0⟩ := box1 w 32 #[.bool s, .slice A lp.length C, .slice D lq.length E]
   have zY0 : Y0.heap.size = g + 1 := by rw [eY0, World.size_alloc, ← hg]
   rw [← hg] at hA
   replace hp := hp.below bY0
   replace hq := hq.below bY0
   have hB := bY0
   have hgw : w.heap.size ≤ g := by omega
   have EY := Lib.hid (And.intro hg eY0)
   clear hg eY0 zY0
   obtain ⟨c0, c1, c2⟩ := hA.q3
   go_enter Tryz.func49, Tryz.ntmps49
   go_wp2_with fail
   rw [← EY.out.2, ← EY.out.1]
   refine (hZ _ hp).mono ?_
   rintro e w2 ⟨rfl, b2⟩
   replace hp := hp.below b2
   replace hq := hq.below b2
   replace hA := hA.below b2 hA.lt
   replace hB := hB.trans (b2.mono hB.size)
   clear c0 c1 c2
   obtain ⟨c3, c4, c5⟩ := hA.q3
   go_wp2
   go_ret
   exact ⟨rfl, hB⟩
 · rw [hz] at hZ
   rw [Bool.true_and]
   cases hn : rightN lq
   · rw [hn] at hN
     rw [Bool.false_and]
     clear hn j0
     obtain ⟨g, hg⟩ : ∃ g, g = w.heap.size := ⟨_, rfl⟩
     obtain ⟨Y0, eY0, hA, bY0⟩ := box1 w 32 #[.bool s, .slice A lp.length C, .slice D lq.length E]
     have zY0 : Y0.heap.size = g + 1 := by rw [eY0, World.size_alloc, ← hg]
     rw [← hg] at hA
     replace hp := hp.below bY0
     replace hq := hq.below bY0
     have hB := bY0
     have hgw : w.heap.size ≤ g := by omega
     have EY := Lib.hid (And.intro hg eY0)
     clear hg eY0 zY0
     obtain ⟨c0, c1, c2⟩ := hA.q3
     go_enter Tryz.func49, Tryz.ntmps49
     go_wp2_with fail
     rw [← EY.out.2, ← EY.out.1]
     refine (hZ _ hp).mono ?_
     rintro e w2 ⟨rfl, b2⟩
     replace hp := hp.below b2
     replace hq := hq.below b2
     replace hA := hA.below b2 hA.lt
     replace hB := hB.trans (b2.mono hB.size)
     clear c0 c1 c2
     obtain ⟨c3, c4, c5⟩ := hA.q3
     go_wp2_with fail
     refine (hN _ hq).mono ?_
     rintro e w4 ⟨rfl, rfl⟩
     go_wp2
     go_ret
     exact ⟨rfl, hB⟩
   · rw [hn] at hN
     rw [Bool.true_and]
     by_cases h0 : lq = []
     · rw [decide_eq_true h0, Bool.not_true, Bool.false_and]
       have j1 : (lq.length : Int) = 0 := by rw [h0]; rfl
       have j2 : lq.length = 0 := by omega
       rw [j2] at hN hq
       clear h0 j0 j1
       rw [j2]
       obtain ⟨g, hg⟩ : ∃ g, g = w.heap.size := ⟨_, rfl⟩
       obtain ⟨Y0, eY0, hA, bY0⟩ := box1 w 32 #[.bool s, .slice A lp.length C, .slice D 0 E]
       have zY0 : Y0.heap.size = g + 1 := by rw [eY0, World.size_alloc, ← hg]
       rw [← hg] at hA
       replace hp := hp.below bY0
       replace hq := hq.below bY0
       have hB := bY0
       have hgw : w.heap.size ≤ g := by omega
       have EY := Lib.hid (And.intro hg eY0)
       clear hg eY0 zY0
       obtain ⟨c0, c1, c2⟩ := hA.q3
       go_enter Tryz.func49, Tryz.ntmps49
       go_wp2_with fail
       rw [← EY.out.2, ← EY.out.1]
       refine (hZ _ hp).mono ?_
       rintro e w2 ⟨rfl, b2⟩
       replace hp := hp.below b2
       replace hq := hq.below b2
       replace hA := hA.below b2 hA.lt
       replace hB := hB.trans (b2.mono hB.size)
       clear c0 c1 c2
       obtain ⟨c3, c4, c5⟩ := hA.q3
       go_wp2_with fail
       refine (hN _ hq).mono ?_
       rintro e w4 ⟨rfl, rfl⟩
       go_wp2
       go_ret
       exact ⟨rfl, hB⟩
     · rw [decide_eq_false h0, Bool.not_false, Bool.true_and]
       have j1 : ((lq.length : Int) == 0) = false := by
         rw [beq_eq_false_iff_ne]
         intro e
         exact h0 (List.eq_nil_of_length_eq_zero (by omega))
       have j2 : decide ((lq.length : Int) = 0) = false := by rw [← j0]; exact decide_eq_false h0
       obtain ⟨n1, e1⟩ := isN_of hp (rightZ_nat hz)
       obtain ⟨n2, e2⟩ := isN_of hq hn
       have hG := fun w h1 h2 => gcd_any (.slice A lp.length C) (.slice D lq.length E) (num lp) (num lq) w h1 h2 (by unfold Sz; rw [e1]; exact np) (by unfold Sz; rw [e2]; exact nq)
       have hO := fun w => rof_any 1 (by unfold W64; omega) w
       have hS := fun u v w h1 h2 => rsame_any u v (Nat.gcd (num lp) (num lq)) 1 w h1 h2
       clear e1 e2 h0 j0 hz hn np nq
       obtain ⟨g, hg⟩ : ∃ g, g = w.heap.size := ⟨_, rfl⟩
       obtain ⟨Y0, eY0, hA, bY0⟩ := box1 w 32 #[.bool s, .slice A lp.length C, .slice D lq.length E]
       have zY0 : Y0.heap.size = g + 1 := by rw [eY0, World.size_alloc, ← hg]
       rw [← hg] at hA
       replace hp := hp.below bY0
       replace hq := hq.below bY0
       replace n1 := n1.below bY0
       replace n2 := n2.below bY0
       have hB := bY0
       have hgw : w.heap.size ≤ g := by omega
       have EY := Lib.hid (And.intro hg eY0)
       clear hg eY0 zY0
       obtain ⟨c0, c1, c2⟩ := hA.q3
       go_enter Tryz.func49, Tryz.ntmps49
       go_wp2_with fail
       rw [← EY.out.2, ← EY.out.1]
       refine (hZ _ hp).mono ?_
       rintro e w2 ⟨rfl, b2⟩
       replace hp := hp.below b2
       replace hq := hq.below b2
       replace n1 := n1.below b2
       replace n2 := n2.below b2
       replace hA := hA.below b2 hA.lt
       replace hB := hB.trans (b2.mono hB.size)
       clear c0 c1 c2
       obtain ⟨c3, c4, c5⟩ := hA.q3
       go_wp2_with fail
       refine (hN _ hq).mono ?_
       rintro e w4 ⟨rfl, rfl⟩
       go_wp2_with fail
       refine (hG _ n1 n2).mono ?_
       rintro e w5 ⟨v3, rfl, n3, b5⟩
       replace hp := hp.below b5
       replace hq := hq.below b5
       replace n1 := n1.below b5
       replace n2 := n2.below b5
       replace hA := hA.below b5 hA.lt
       replace hB := hB.trans (b5.mono hB.size)
       clear c3 c4 c5
       obtain ⟨c6, c7, c8⟩ := hA.q3
       go_wp2_with fail
       refine (hO _).mono ?_
       rintro e w7 ⟨v4, rfl, n4, b7⟩
       replace hp := hp.below b7
       replace hq := hq.below b7
       replace n1 := n1.below b7
       replace n2 := n2.below b7
       replace hA := hA.below b7 hA.lt
       replace n3 := n3.below b7
       replace hB := hB.trans (b7.mono hB.size)
       clear c6 c7 c8
       obtain ⟨c9, c10, c11⟩ := hA.q3
       go_wp2_with fail
       refine (hS _ _ _ n3 n4).mono ?_
       rintro e w9 ⟨rfl, n9, hn9⟩
       have b9 : Below w7.heap.size w7 w9 := by rw [hn9]; exact below_drewN (Below.refl _ _) n9
       clear hn9
       replace hp := hp.below b9
       replace hq := hq.below b9
       replace n1 := n1.below b9
       replace n2 := n2.below b9
       replace hA := hA.below b9 hA.lt
       replace n3 := n3.below b9
       replace n4 := n4.below b9
       replace hB := hB.trans (b9.mono hB.size)
       clear c9 c10 c11
       obtain ⟨c12, c13, c14⟩ := hA.q3
       go_wp2
       go_ret
       exact ⟨rfl, hB⟩
set_option maxRecDepth 100000 in
set_option maxHeartbeats 8000000 in
theorem rfew5_any (s : Bool) (p q : Value) (lp lq : List Nat) (m : Nat) (w : World) (hp : IsL w p lp) (hq : IsL w q lq) (hm : m ≤ 1000) :
   Calls Tryz.prog 11 #[.agg #[.bool s, p, q], .int .i64 m] w fun e w' => e = .returned (.bool (fewQ s lp lq m)) ∧ Below w.heap.size w w' := by
 unfold fewQ
 obtain ⟨A, C, rfl, _, _⟩ := id hp.frmL
 obtain ⟨D, E, rfl, _, _⟩ := id hq.frmL
 by_cases h1 : lp.length ≤ m
 · rw [decide_eq_true h1, Bool.true_and]
   have i1 : decide ((lp.length : Int) ≤ (m : Int)) = true := decide_eq_true (by omega)
   by_cases h2 : lq.length ≤ m
   · rw [decide_eq_true h2, Bool.true_and]
     have i2 : decide ((lq.length : Int) ≤ (m : Int)) = true := decide_eq_true (by omega)
     have hR := fun w h1 h2 => rright5_any s (.slice A lp.length C) (.slice D lq.length E) lp lq w h1 h2 (by omega) (by omega)
     generalize rightQ s lp lq = r at *
     have k1 : decide (lp.length ≤ m) = true := decide_eq_true h1
     have k2 : decide (lq.length ≤ m) = true := decide_eq_true h2
     obtain ⟨g, hg⟩ : ∃ g, g = w.heap.size := ⟨_, rfl⟩
     obtain ⟨Y0, eY0, hA, bY0⟩ := box1 w 32 #[.bool s, .slice A lp.length C, .slice D lq.length E]
     have zY0 : Y0.heap.size = g + 1 := by rw [eY0, World.size_alloc, ← hg]
     rw [← hg] at hA
     replace hp := hp.below bY0
     replace hq := hq.below bY0
     have hB := bY0
     have hgw : w.heap.size ≤ g := by omega
     have EY := Lib.hid (And.intro hg eY0)
     clear hg eY0 zY0
     obtain ⟨c0, c1, c2⟩ := hA.q3
     go_enter Tryz.func11, Tryz.ntmps11
     go_wp2_with fail
     rw [← EY.out.2, ← EY.out.1]
     refine (hR _ hp hq).mono ?_
     rintro e w2 ⟨rfl, b2⟩
     replace hp := hp.below b2
     replace hq := hq.below b2
     replace hA := hA.below b2 hA.lt
     replace hB := hB.trans (b2.mono hB.size)
     clear c0 c1 c2
     obtain ⟨c3, c4, c5⟩ := hA.q3
     go_wp2
     go_ret
     exact ⟨rfl, hB⟩
   · rw [decide_eq_false h2, Bool.false_and]
     have i2 : decide ((lq.length : Int) ≤ (m : Int)) = false := decide_eq_false (by omega)
     have k1 : decide (lp.length ≤ m) = true := decide_eq_true h1
     have k2 : decide (lq.length ≤ m) = false := decide_eq_false h2
     obtain ⟨g, hg⟩ : ∃ g, g = w.heap.size := ⟨_, rfl⟩
     obtain ⟨Y0, eY0, hA, bY0⟩ := box1 w 32 #[.bool s, .slice A lp.length C, .slice D lq.length E]
     have zY0 : Y0.heap.size = g + 1 := by rw [eY0, World.size_alloc, ← hg]
     rw [← hg] at hA
     replace hp := hp.below bY0
     replace hq := hq.below bY0
     have hB := bY0
     have hgw : w.heap.size ≤ g := by omega
     have EY := Lib.hid (And.intro hg eY0)
     clear hg eY0 zY0
     obtain ⟨c0, c1, c2⟩ := hA.q3
     go_enter Tryz.func11, Tryz.ntmps11
     go_wp2
     go_ret
     refine ⟨rfl, ?_⟩
     rw [← EY.out.2, ← EY.out.1]
     first | exact hB | (rw [EY.out.1]; exact hB)
 · rw [decide_eq_false h1, Bool.false_and]
   have i1 : decide ((lp.length : Int) ≤ (m : Int)) = false := decide_eq_false (by omega)
   have k1 : decide (lp.length ≤ m) = false := decide_eq_false h1
   obtain ⟨g, hg⟩ : ∃ g, g = w.heap.size := ⟨_, rfl⟩
   obtain ⟨Y0, eY0, hA, bY0⟩ := box1 w 32 #[.bool s, .slice A lp.length C, .slice D lq.length E]
   have zY0 : Y0.heap.size = g + 1 := by rw [eY0, World.size_alloc, ← hg]
   rw [← hg] at hA
   replace hp := hp.below bY0
   replace hq := hq.below bY0
   have hB := bY0
   have hgw : w.heap.size ≤ g := by omega
   have EY := Lib.hid (And.intro hg eY0)
   clear hg eY0 zY0
   obtain ⟨c0, c1, c2⟩ := hA.q3
   go_enter Tryz.func11, Tryz.ntmps11
   go_wp2
   go_ret
   refine ⟨rfl, ?_⟩
   rw [← EY.out.2, ← EY.out.1]
   first | exact hB | (rw [EY.out.1]; exact hB)
end Go.Proofs.YtdnjdglekifhpaaGreat
namespace Go.Proofs.YtdnjdglekifhpaaGreat
open Go.ChangeShapes Go.WideShapes Go.ChangeAt Go.RowKit
set_option maxRecDepth 100000 in
theorem open_limbs_c {H : Type} {enc : TypeId × Value → H} {W : World} {t : TypeId} {v : Value} {fuel : Nat} {x : DataW H × List MemPlace} (ht : Tryz.prog.underlying t = some (.slice 141))
   (h : DataW.trod enc Tryz.prog W 0 (fun _ => true) true fuel t [v] = some x) (hlt : ∀ p ∈ x.2, p.block < W.heap.size) : ∃ l, IsL W v l := by
 rcases open_ints ht Tryz.underlying141 (by kernel_rfl : Tryz.prog.cellsOf 141 = 1) h with ⟨hcs, hx⟩ | ⟨a, len, cap, zs, hcs, _, hl, hm, hz, hx, hcell, hwz⟩
 · obtain rfl : v = _ := by simpa using hcs
   exact ⟨[], IsL.nil W⟩
 · obtain rfl : v = _ := by simpa using hcs
   subst hx
   simp only at hlt
   simp only [if_true] at hz
   unfold maxLen at hm
   have hll : ((zs.take len).map Int.toNat).length = len := by simp; omega
   refine ⟨(zs.take len).map Int.toNat, some a, cap, by rw [hll], by omega, by omega, ?_, ?_⟩
   · intro x hx
     obtain ⟨z, hz', rfl⟩ := List.mem_map.1 hx
     have := wf_u64 (hwz z (List.mem_of_mem_take hz'))
     omega
   · rw [hll]
     refine ⟨by rw [us_len, hll]; omega, fun h0 => ⟨a, rfl, ?_, fun j u hu => ?_⟩⟩
     · obtain ⟨b, off, spot⟩ := a
       have hspot : spot = none := by simpa [Addr.add] using World.cell?_spot (hcell 0 (by omega))
       subst hspot
       exact hlt (.cell b off) (MemPlace.mem_row.2 ⟨0, by omega, by simp⟩)
     · have hj : j < len := by
         rcases Nat.lt_or_ge j len with h' | h'
         · exact h'
         · rw [List.getElem?_eq_none (by rw [us_len, hll]; exact h')] at hu; cases hu
       have hjz : j < zs.length := by omega
       have hwf := wf_u64 (hwz _ (List.getElem_mem hjz))
       rw [hcell j hjz]
       rw [us_at _ j (by rw [hll]; exact hj)] at hu
       rw [← Option.some.inj hu]
       have e : zs.getD j 0 = zs[j] := by simp [List.getD, hjz]
       have e2 : ((zs.take len).map Int.toNat)[j]?.getD 0 = (zs[j]).toNat := by simp [hj, hjz]
       rw [e, e2]
       congr 2
       omega
theorem cells_zed : Tryz.prog.cellsOf 30 = 2 := by kernel_rfl
theorem cells_boolz : Tryz.prog.cellsOf 4 = 1 := by kernel_rfl
theorem cells_natz : Tryz.prog.cellsOf 28 = 1 := by kernel_rfl
end Go.Proofs.YtdnjdglekifhpaaGreat
namespace Go.Proofs.YtdnjdglekifhpaaGreat
open Go.ChangeShapes Go.WideShapes Go.ChangeAt Go.RowKit
section
variable {H : Type} {enc : TypeId × Value → H} {W : World}
theorem cells_ratq : Tryz.prog.cellsOf 32 = 3 := by kernel_rfl
theorem cells_rat2 : Tryz.prog.cellsOf 33 = 6 := by kernel_rfl
theorem cells_int2q : Tryz.prog.cellsOf 34 = 2 := by kernel_rfl
theorem cells_i64q : Tryz.prog.cellsOf 2 = 1 := by kernel_rfl
theorem okWide_arr {P : Program} {w : World} {r : Reach} {t e : TypeId} {n b0 : Nat} {v : Value} (ht : P.underlying t = some (.array n e)) (h : Value.okWide P w r b0 t v) : ∃ cs, v = .agg cs ∧ cs.size = P.cellsOf t := by
 simp only [Value.okWide, ht] at h
 obtain ⟨cs, h1, h2, _⟩ := h
 exact ⟨cs, h1, h2⟩
set_option maxRecDepth 100000 in
theorem open_zed2c {fuel : Nat} {c0 c1 : Value} {x : DataW H × List MemPlace} (h : DataW.trod enc Tryz.prog W 0 (fun _ => true) true fuel 30 [c0, c1] = some x) (hlt : ∀ p ∈ x.2, p.block < W.heap.size) :
   ∃ b l, c0 = .bool b ∧ IsL W c1 l := by
 obtain ⟨xs, n, _, rfl, _, hlen, hg⟩ := DataW.trod_struct Tryz.underlying30 h
 match xs, hlen with
 | [y0, y1], _ =>
   have a0 : DataW.trod enc Tryz.prog W 0 (fun _ => true) true n 4 (([c0, c1].drop 0).take (Tryz.prog.cellsOf 4)) = some y0 := hg 0 _ rfl
   have a1 : DataW.trod enc Tryz.prog W 0 (fun _ => true) true n 28 (([c0, c1].drop 1).take (Tryz.prog.cellsOf 28)) = some y1 := hg 1 _ rfl
   rw [cells_boolz] at a0
   rw [cells_natz] at a1
   obtain ⟨b, e0, _⟩ := DataW.trod_bool Tryz.underlying4 a0
   simp at e0
   subst e0
   obtain ⟨l, hl⟩ := open_limbs_c Tryz.underlying28 a1 (fun p hp => hlt p (by simp [hp]))
   exact ⟨b, l, rfl, hl⟩
set_option maxRecDepth 100000 in
theorem open_rat3c {fuel : Nat} {c0 c1 c2 : Value} {x : DataW H × List MemPlace} (h : DataW.trod enc Tryz.prog W 0 (fun _ => true) true fuel 32 [c0, c1, c2] = some x) (hlt : ∀ p ∈ x.2, p.block < W.heap.size) :
   ∃ b lp lq, c0 = .bool b ∧ IsL W c1 lp ∧ IsL W c2 lq := by
 obtain ⟨xs, n, _, rfl, _, hlen, hg⟩ := DataW.trod_struct Tryz.underlying32 h
 match xs, hlen with
 | [y0, y1], _ =>
   have a0 : DataW.trod enc Tryz.prog W 0 (fun _ => true) true n 30 (([c0, c1, c2].drop 0).take (Tryz.prog.cellsOf 30)) = some y0 := hg 0 _ rfl
   have a1 : DataW.trod enc Tryz.prog W 0 (fun _ => true) true n 28 (([c0, c1, c2].drop 2).take (Tryz.prog.cellsOf 28)) = some y1 := hg 1 _ rfl
   rw [cells_zed] at a0
   rw [cells_natz] at a1
   obtain ⟨b, lp, rfl, hp⟩ := open_zed2c a0 (fun p hp => hlt p (by simp [hp]))
   obtain ⟨lq, hq⟩ := open_limbs_c Tryz.underlying28 a1 (fun p hp => hlt p (by simp [hp]))
   exact ⟨b, lp, lq, rfl, hp, hq⟩
def RawQ (w : World) (_s : Bool) (p q : Value) (lp lq : List Nat) : Prop := IsL w p lp ∧ IsL w q lq
set_option maxRecDepth 100000 in
theorem open_rat2 {base : Nat} {v : Value} {d : DataW H} {p : List MemPlace} (hv : Value.okWide Tryz.prog W .any base 33 v) (h : DataW.Trod enc Tryz.prog W 0 (fun _ => true) true 33 v d p)
   (hlt : ∀ x ∈ p, x.block < W.heap.size) : ∃ s1 p1 q1 s2 p2 q2 a1 b1 a2 b2, v = .agg #[.bool s1, p1, q1, .bool s2, p2, q2] ∧ RawQ W s1 p1 q1 a1 b1 ∧ RawQ W s2 p2 q2 a2 b2 := by
 obtain ⟨⟨l⟩, rfl, hsz⟩ := okWide_arr Tryz.underlying33 hv
 rw [cells_rat2] at hsz
 match l, hsz with
 | [c0, c1, c2, c3, c4, c5], _ =>
   obtain ⟨fuel, hf⟩ := h
   obtain ⟨xs, m, _, hxp, _, hl, h1⟩ := DataW.trod_array Tryz.underlying33 hf
   match xs, hl with
   | [y0, y1], _ =>
     obtain ⟨rfl, rfl⟩ := Prod.mk.inj hxp
     have a0 : DataW.trod enc Tryz.prog W 0 (fun _ => true) true m 32 (([c0, c1, c2, c3, c4, c5].drop (0 * Tryz.prog.cellsOf 32)).take (Tryz.prog.cellsOf 32)) = some y0 := h1 0 (by omega)
     have a1 : DataW.trod enc Tryz.prog W 0 (fun _ => true) true m 32 (([c0, c1, c2, c3, c4, c5].drop (1 * Tryz.prog.cellsOf 32)).take (Tryz.prog.cellsOf 32)) = some y1 := h1 1 (by omega)
     rw [cells_ratq] at a0 a1
     obtain ⟨s1, A, B, rfl, hA, hB⟩ := open_rat3c a0 (fun p hp => hlt p (by simp [hp]))
     obtain ⟨s2, C, D, rfl, hC, hD⟩ := open_rat3c a1 (fun p hp => hlt p (by simp [hp]))
     exact ⟨s1, _, _, s2, _, _, A, B, C, D, rfl, ⟨hA, hB⟩, ⟨hC, hD⟩⟩
set_option maxRecDepth 100000 in
theorem open_int2 {base : Nat} {v : Value} {d : DataW H} {p : List MemPlace} (hv : Value.okWide Tryz.prog W .any base 34 v) (h : DataW.Trod enc Tryz.prog W 0 (fun _ => true) true 34 v d p) :
   ∃ a b : Int, v = .agg #[.int .i64 a, .int .i64 b] ∧ I64 a ∧ I64 b := by
 obtain ⟨⟨l⟩, rfl, hsz⟩ := okWide_arr Tryz.underlying34 hv
 rw [cells_int2q] at hsz
 match l, hsz with
 | [x, y], _ =>
   obtain ⟨fuel, hf⟩ := h
   obtain ⟨xs, m, _, hxp, _, hl, h1⟩ := DataW.trod_array Tryz.underlying34 hf
   match xs, hl with
   | [y0, y1], _ =>
     have a0 : DataW.trod enc Tryz.prog W 0 (fun _ => true) true m 2 (([x, y].drop (0 * Tryz.prog.cellsOf 2)).take (Tryz.prog.cellsOf 2)) = some y0 := h1 0 (by omega)
     have a1 : DataW.trod enc Tryz.prog W 0 (fun _ => true) true m 2 (([x, y].drop (1 * Tryz.prog.cellsOf 2)).take (Tryz.prog.cellsOf 2)) = some y1 := h1 1 (by omega)
     rw [cells_i64q] at a0 a1
     obtain ⟨n, e1, _, w1⟩ := DataW.trod_int Tryz.underlying2 a0
     obtain ⟨n', e2, _, w2⟩ := DataW.trod_int Tryz.underlying2 a1
     simp at e1 e2
     subst e1 e2
     exact ⟨n, n', rfl, wf_I64 w1, wf_I64 w2⟩
end
end Go.Proofs.YtdnjdglekifhpaaGreat
namespace Go.Proofs.YtdnjdglekifhpaaGreat
theorem mayB_iff {k z m o : Int} : mayB k z m o = true ↔ (0 ≤ k ∧ k ≤ 3 ∧ 1 ≤ z ∧ z ≤ 4096 ∧ 0 ≤ m ∧ 0 ≤ o) := by unfold mayB; exact decide_eq_true_iff
section
variable {k z m o : Int} {l : List Int}
theorem size_of (h : mayB k z m o = true) : ∃ Z : Nat, z = Z ∧ 1 ≤ Z ∧ Z ≤ 4096 := by
 obtain ⟨_, _, h1, h2, _⟩ := mayB_iff.1 h
 exact ⟨z.toNat, by omega, by omega, by omega⟩
end
end Go.Proofs.YtdnjdglekifhpaaGreat
namespace Go.Proofs.YtdnjdglekifhpaaGreat
open Go.RowKit
attribute [local go_sem ↓] Go.wp_at_zero Go.wp_at_succ
theorem Blk.cells6t {w : World} {g : Nat} {t : TypeId} {a b c d e f : Value} (h : Blk w g t #[a, b, c, d, e, f]) : w.cell? ⟨g, 0, none⟩ = some a ∧ w.cell? ⟨g, 1, none⟩ = some b ∧ w.cell? ⟨g, 2, none⟩ = some c ∧ w.cell? ⟨g, 3, none⟩ = some d ∧ w.cell? ⟨g, 4, none⟩ = some e ∧ w.cell? ⟨g, 5, none⟩ = some f := ⟨h.cell 0, h.cell 1, h.cell 2, h.cell 3, h.cell 4, h.cell 5⟩
end Go.Proofs.YtdnjdglekifhpaaGreat
namespace Go.Proofs.YtdnjdglekifhpaaGreat
open Go.RowKit Go.Shelf
attribute [local go_sem] Oper.semAt_some
theorem IsSt.zero (w : World) : IsSt w (.agg #[.int .i64 0, .int .i64 0, .int .i64 0, .int .i64 0, .int .i64 0, .slice none 0 0]) (0, 0, 0, 0, 0, []) := ⟨_, rfl, IsBs.nil w⟩
def bkP (k m o : Int) (Z : Nat) (l : List Int) (i : Nat) : Bk := bkOf (kindOf k m o l.length (partZ Z l i)) (partZ Z l i)
def oddPi (k m o : Int) (Z : Nat) (l : List Int) (i : Nat) : Bool := oddP (kindOf k m o l.length (partZ Z l i)) (partZ Z l i)
def OfI (k m o : Int) (Z : Nat) (A : Option Addr) (c : Nat) (l : List Int) (g X b : Nat) (ps : List Nat) (W : World) : Prop :=
 (∃ v, Blk W X 26 #[.int .i64 k, .int .i64 Z, .int .i64 m, .int .i64 o, .int .i64 l.length, v] ∧ OwnBs W b b v (ps.map (bkP k m o Z l))) ∧ (∀ i ∈ ps, oddPi k m o Z l i = false) ∧
 Blk W g 23 #[.int .i64 k, .int .i64 Z, .int .i64 m, .int .i64 o] ∧ Blk W (g + 1) 62 #[.slice A l.length c] ∧
 Blk W (g + 1 + 1) 26 #[.int .i64 0, .int .i64 0, .int .i64 0, .int .i64 0, .int .i64 0, .slice none 0 0] ∧ Blk W (g + 1 + 1 + 1) 42 #[.int .i64 0]
def OfX (k m o : Int) (Z : Nat) (l : List Int) (g : Nat) (ps : List Nat) (W : World) : Prop :=
 (∃ i ∈ ps, oddPi k m o Z l i = true) ∧ Blk W (g + 1 + 1) 26 #[.int .i64 0, .int .i64 0, .int .i64 0, .int .i64 0, .int .i64 0, .slice none 0 0] ∧ Blk W (g + 1 + 1 + 1) 42 #[.int .i64 1]
section
variable {X Y : World} {row : Option Nat}
theorem blk_own {g : Nat} {t : TypeId} {cs : Array Value} (h : Blk X g t cs) (hg : X.grownBy Y row) (hr : ∀ r, row = some r → ∃ o : Obj, X.heap[r]? = some o ∧ o.isCells = false) : Blk Y g t cs :=
 h.grown hg fun e => by
   obtain ⟨o, ho, hc⟩ := hr g e.symm
   unfold Blk at h; rw [h] at ho; cases ho; cases hc
theorem away_own {v : Value} {A : Option Addr} {n c m : Nat} {xs : List Value} (_ : v = .slice A n c) (h : Reads X X.heap.size 1 A m xs) (hm : 0 < m) (hxs : xs.length = m) (hr : ∀ r, row = some r → ∃ o : Obj, X.heap[r]? = some o ∧ o.isCells = false) : ∀ g, row = some g → v.ownBlock ≠ some g := by
 intro g e e2
 subst v
 obtain ⟨ad, rfl, hb, hc⟩ := h.2 hm
 have e3 : ad.block = g := by simpa [Value.ownBlock] using e2
 obtain ⟨o, ho, hcl⟩ := hr g e
 have := hc 0 xs[0] (List.getElem?_eq_getElem (by omega))
 have hbk : (ad.add 0).block = g := by rw [block_of_add]; exact e3
 unfold World.cell? at this
 rw [hbk, ho] at this
 cases o <;> simp_all [Obj.isCells]
theorem IsI.ownr {v : Value} {l : List Int} (h : IsI X v l) (hg : X.grownBy Y row) (hr : ∀ r, row = some r → ∃ o : Obj, X.heap[r]? = some o ∧ o.isCells = false) : IsI Y v l :=
 h.grownF hg fun g e => by
   obtain ⟨A, c, e1, h1, h2, h4⟩ := h
   rcases List.eq_nil_or_concat l with rfl | ⟨_, _, rfl⟩
   · exact .inl rfl
   · exact .inr (away_own e1 h4 (by simp) (by rw [is_len]) hr g e)
theorem IsY.ownr {v : Value} {l : List Nat} (h : IsY X v l) (hg : X.grownBy Y row) (hr : ∀ r, row = some r → ∃ o : Obj, X.heap[r]? = some o ∧ o.isCells = false) : IsY Y v l :=
 h.grownF hg fun g e => by
   obtain ⟨A, c, e1, h1, h2, h3, h4⟩ := h
   rcases List.eq_nil_or_concat l with rfl | ⟨_, _, rfl⟩
   · exact .inl rfl
   · exact .inr (away_own e1 h4 (by simp) (by rw [ys_len]) hr g e)
theorem OwnBs.ownr {b fl : Nat} {v : Value} {bs : List Bk} (h : OwnBs X b fl v bs) (hg : X.grownBy Y row) (hr : ∀ r, row = some r → ∃ o : Obj, X.heap[r]? = some o ∧ o.isCells = false) : OwnBs Y b fl v bs := by
 obtain ⟨es, h1, h2, h3, h4⟩ := h
 refine ⟨es, h1, fun e he => ⟨(h2 e he).1.ownr hg hr, (h2 e he).2.ownr hg hr⟩, h3, h4.kept hg ?_⟩
 rcases h4.2 with ⟨rfl, _⟩ | ⟨g, cap, cur, rfl, _, hh, _⟩
 · exact .inl rfl
 · right
   intro e
   obtain ⟨o, ho, hc⟩ := hr g (by rw [← e]; rfl)
   rw [hh] at ho; cases ho; cases hc
theorem OfI.own {k m o : Int} {Z : Nat} {A : Option Addr} {c : Nat} {l : List Int} {g x b : Nat} {ps : List Nat} (h : OfI k m o Z A c l g x b ps X) (hg : X.grownBy Y row) (hr : ∀ r, row = some r → ∃ o : Obj, X.heap[r]? = some o ∧ o.isCells = false) : OfI k m o Z A c l g x b ps Y := by
 obtain ⟨⟨v, h1, h2⟩, h3, h4, h5, h6, h7⟩ := h
 exact ⟨⟨v, blk_own h1 hg hr, h2.ownr hg hr⟩, h3, blk_own h4 hg hr, blk_own h5 hg hr, blk_own h6 hg hr, blk_own h7 hg hr⟩
theorem OfX.own {k m o : Int} {Z : Nat} {l : List Int} {g : Nat} {ps : List Nat} (h : OfX k m o Z l g ps X) (hg : X.grownBy Y row) (hr : ∀ r, row = some r → ∃ o : Obj, X.heap[r]? = some o ∧ o.isCells = false) : OfX k m o Z l g ps Y :=
 ⟨h.1, blk_own h.2.1 hg hr, blk_own h.2.2 hg hr⟩
end
end Go.Proofs.YtdnjdglekifhpaaGreat
namespace Go.Proofs.YtdnjdglekifhpaaGreat
open Go.RowKit
attribute [local go_sem ↓] Go.wp_at_zero Go.wp_at_succ
set_option maxHeartbeats 1000000 in
theorem rmay14_any (k z m o : Int) (w : World) : Calls Tryz.prog 50 #[.agg #[.int .i64 k, .int .i64 z, .int .i64 m, .int .i64 o]] w fun e w' => e = .returned (.bool (mayB k z m o)) ∧ Below w.heap.size w w' := by
 have HB := Lib.hid ((Below.refl w.heap.size w).alloc (Nat.le_refl _) (.cells #[.int .i64 k, .int .i64 z, .int .i64 m, .int .i64 o] 23))
 have hd : mayB k z m o = (decide (0 ≤ k) && (decide (k ≤ 3) && (decide (1 ≤ z) && (decide (z ≤ 4096) && (decide (0 ≤ m) && decide (0 ≤ o)))))) := by
   rw [Bool.eq_iff_iff]; simp [mayB]
 rw [hd]
 clear hd
 by_cases h1 : 0 ≤ k <;> by_cases h2 : k ≤ 3 <;> by_cases h3 : 1 ≤ z <;> by_cases h4 : z ≤ 4096 <;> by_cases h5 : 0 ≤ m
 all_goals try (exfalso; omega)
 all_goals
   first
     | rw [decide_eq_true h1]
     | rw [decide_eq_false h1]
   first
     | rw [decide_eq_true h2]
     | rw [decide_eq_false h2]
   first
     | rw [decide_eq_true h3]
     | rw [decide_eq_false h3]
   first
     | rw [decide_eq_true h4]
     | rw [decide_eq_false h4]
   first
     | rw [decide_eq_true h5]
     | rw [decide_eq_false h5]
   go_enter Tryz.func50, Tryz.ntmps50
   go_wp2
   go_ret
   exact ⟨rfl, HB.out⟩
end Go.Proofs.YtdnjdglekifhpaaGreat
namespace Go.Proofs.YtdnjdglekifhpaaGreat
open Go.RowKit
attribute [local go_sem ↓] Go.wp_at_zero Go.wp_at_succ
set_option maxHeartbeats 4000000 in
theorem rzsub_any (va vb : Value) (a b : Int) (w : World) (ha : IsZ w va a) (hb : IsZ w vb b) (sa : Sz a.natAbs 400000) (sb : Sz b.natAbs 400000) :
   Calls Tryz.prog 245 #[va, vb] w fun e w' => ∃ v', e = .returned v' ∧ IsZ w' v' (a - b) ∧ Below w.heap.size w w' := by
 have hNg := fun v w h => rzneg_any v b w h
 have hAd := fun u v w h1 h2 => rzadd_any u v a (-b) w h1 h2 sa (by rw [Int.natAbs_neg]; exact sb)
 rw [show a + -b = a - b from (Int.sub_eq_add_neg).symm] at hAd
 have hav := ha
 have hbv := hb
 obtain ⟨na, rfl, hna⟩ := ha
 obtain ⟨nb, rfl, hnb⟩ := hb
 obtain ⟨Aa, La, Ca, rfl⟩ := hna.frm
 obtain ⟨Ab, Lb, Cb, rfl⟩ := hnb.frm
 generalize a - b = c at *
 clear hna hnb sa sb
 obtain ⟨W0, hW, hT, hR, hB⟩ := box3 w 30 30 30 #[.bool (decide (a < 0)), .slice Aa La Ca] #[.bool (decide (b < 0)), .slice Ab Lb Cb] #[.bool false, .slice none 0 0]
 obtain ⟨g, hg⟩ : ∃ g, g = w.heap.size := ⟨_, rfl⟩
 have hW' := Lib.hid (And.intro hW hg)
 rw [← hg] at hT hR
 have hgw : w.heap.size ≤ g := by omega
 clear hW hg
 obtain ⟨hX, hY⟩ := hT
 replace hav := hav.below hB
 replace hbv := hbv.below hB
 obtain ⟨c1_hX_0, c1_hX_1⟩ := hX.cells2
 obtain ⟨c1_hY_0, c1_hY_1⟩ := hY.cells2
 obtain ⟨c1_hR_0, c1_hR_1⟩ := hR.cells2
 generalize decide (a < 0) = s1 at *
 generalize decide (b < 0) = s2 at *
 go_enter Tryz.func245, Tryz.ntmps245
 go_upto_region 1 with fail
 rw [← hW'.out.1, ← hW'.out.2]
 go_region_held3 (fun w' => w'.cell? ⟨g, 0, none⟩ = some (.bool s1) ∧ w'.cell? ⟨g, 1, none⟩ = some (.slice Aa La Ca) ∧ w'.cell? ⟨g + 1, 0, none⟩ = some (.bool s2) ∧ w'.cell? ⟨g + 1, 1, none⟩ = some (.slice Ab Lb Cb))
   (first | exact Two.cells22 ⟨hX.below (by first | assumption | exact bdrew _ | exact Below.refl _ _ | exact balloc (bdrew _) _ | exact balloc (by assumption) _ | exact balloc (Below.refl _ _) _ | exact bset (bset (by assumption) (by first | assumption | exact Nat.le_refl _) _) (by first | assumption | exact Nat.le_refl _) _) hX.lt, hY.below (by first | assumption | exact bdrew _ | exact Below.refl _ _ | exact balloc (bdrew _) _ | exact balloc (by assumption) _ | exact balloc (Below.refl _ _) _ | exact bset (bset (by assumption) (by first | assumption | exact Nat.le_refl _) _) (by first | assumption | exact Nat.le_refl _) _) hY.lt⟩ | exact Two.cells22 (Two.far2 ⟨hX.below (by first | assumption | exact bdrew _ | exact Below.refl _ _ | exact balloc (bdrew _) _ | exact balloc (by assumption) _ | exact balloc (Below.refl _ _) _ | exact bset (bset (by assumption) (by first | assumption | exact Nat.le_refl _) _) (by first | assumption | exact Nat.le_refl _) _) hX.lt, hY.below (by first | assumption | exact bdrew _ | exact Below.refl _ _ | exact balloc (bdrew _) _ | exact balloc (by assumption) _ | exact balloc (Below.refl _ _) _ | exact bset (bset (by assumption) (by first | assumption | exact Nat.le_refl _) _) (by first | assumption | exact Nat.le_refl _) _) hY.lt⟩ _ _))
   (first
     | (go_at_call 142; (with_reducible refine (hNg _ _ ?_).mono ?_); exact hbv.below (by first | assumption | exact bdrew _ | exact Below.refl _ _ | exact balloc (bdrew _) _ | exact balloc (by assumption) _ | exact balloc (Below.refl _ _) _ | exact bset (bset (by assumption) (by first | assumption | exact Nat.le_refl _) _) (by first | assumption | exact Nat.le_refl _) _); rintro e w1 ⟨v1, rfl, h1, b1⟩; have B1 := bstep (a := W0) (by first | assumption | exact bdrew _ | exact Below.refl _ _ | exact balloc (bdrew _) _ | exact balloc (by assumption) _ | exact balloc (Below.refl _ _) _ | exact bset (bset (by assumption) (by first | assumption | exact Nat.le_refl _) _) (by first | assumption | exact Nat.le_refl _) _) b1)
     | (go_at_call 71; (with_reducible refine (hAd _ _ _ ?_ ?_).mono ?_); exact hav.below (by first | assumption | exact bdrew _ | exact Below.refl _ _ | exact balloc (bdrew _) _ | exact balloc (by assumption) _ | exact balloc (Below.refl _ _) _ | exact bset (bset (by assumption) (by first | assumption | exact Nat.le_refl _) _) (by first | assumption | exact Nat.le_refl _) _); exact h1.below (by first | exact Below.refl _ _ | exact balloc (Below.refl _ _) _ | exact bdrew _ | exact (balloc (Below.refl _ _) _).drew); rintro e w2 ⟨v2, rfl, ⟨n2, rfl, h2⟩, b2⟩; obtain ⟨A2, L2, C2, rfl⟩ := h2.frm; have B2 := bstep (a := W0) (by first | assumption | exact bdrew _ | exact Below.refl _ _ | exact balloc (bdrew _) _ | exact balloc (by assumption) _ | exact balloc (Below.refl _ _) _ | exact bset (bset (by assumption) (by first | assumption | exact Nat.le_refl _) _) (by first | assumption | exact Nat.le_refl _) _) b2; have hR2 := hR.below B2 hR.lt; obtain ⟨q0, q1⟩ := hR2.cells2; have z0 := hR2.frozen 0; have z1 := hR2.frozen 1))
 all_goals
   have hB2 := hB.trans (B2.mono hB.size)
   obtain ⟨p1, p2, p3⟩ := put2 hR2 (.bool (decide (c < 0))) (.slice A2 L2 C2) (by simp [noU]) hB2 (by omega)
   have P := Lib.hid (And.intro (p2 _ _ h2) (And.intro p3 p1.cells2))
   clear p1 p2 p3
   go_wp2
   obtain ⟨P1, P2, P3, P4⟩ := P.out
   exact bodyPost_ret (v := .agg #[.bool (decide (c < 0)), .slice A2 L2 C2]) (by simp [results, Tryz.results245, go_sem, P3, P4]) rfl ⟨_, rfl, ⟨_, rfl, P1⟩, P2⟩
set_option maxHeartbeats 2000000 in
theorem rshare_any (n : Nat) (hn : n < 4) (num : Int) (hi : I64 num) (w : World) :
   Calls Tryz.prog 224 #[.int .i64 n, .int .i64 num] w fun e w' => ∃ v', e = .returned v' ∧ IsZ w' v' (num * den (n : Nat)) ∧ Below w.heap.size w w' := by
 obtain ⟨d0, d1⟩ := dens_pos hn
 have hO1 := fun w => rzof_any num hi.1 hi.2 w
 have hDn := fun w => rden_any n w
 have hO2 := fun w => rzof_any (den (n : Nat)) (by omega) (by omega) w
 have s1 : Sz num.natAbs 400000 := (Sz.u64 (by have := hi.1; have := hi.2; unfold W64; omega)).more (by omega)
 have s2 : Sz (den (n : Nat)).natAbs 400000 := (Sz.u64 (by unfold W64; omega)).more (by omega)
 have hM := fun u v w h1 h2 => rzmul_any u v num (den (n : Nat)) w h1 h2 s1 s2
 generalize hc : num * den (n : Nat) = c at *
 generalize den (n : Nat) = D at *
 clear hc s1 s2 d0 d1 hi hn
 obtain ⟨W0, hW, hR, hB⟩ := box1 w 30 #[.bool false, .slice none 0 0]
 obtain ⟨g, hg⟩ : ∃ g, g = w.heap.size := ⟨_, rfl⟩
 have hW' := Lib.hid (And.intro hW hg)
 rw [← hg] at hR
 have hgw : w.heap.size ≤ g := by omega
 clear hW hg
 skip
 obtain ⟨c1_hR_0, c1_hR_1⟩ := hR.cells2
 go_enter Tryz.func224, Tryz.ntmps224
 go_wp2_with fail
 rw [← hW'.out.1, ← hW'.out.2]
 refine (hO1 _).mono ?_
 rintro e w1 ⟨v1, rfl, h1, b1⟩
 replace hR := hR.below b1 hR.lt
 replace hB := hB.trans (b1.mono hB.size)
 clear c1_hR_0 c1_hR_1
 obtain ⟨c2_hR_0, c2_hR_1⟩ := hR.cells2
 go_wp2_with fail
 refine (hDn _).mono ?_
 rintro e w2 ⟨rfl, rfl⟩
 go_wp2_with fail
 refine (hO2 _).mono ?_
 rintro e w3 ⟨v2, rfl, h2, b3⟩
 replace hR := hR.below b3 hR.lt
 replace h1 := h1.below b3
 replace hB := hB.trans (b3.mono hB.size)
 clear c2_hR_0 c2_hR_1
 obtain ⟨c3_hR_0, c3_hR_1⟩ := hR.cells2
 go_wp2_with fail
 refine (hM _ _ _ h1 h2).mono ?_
 rintro e w4 ⟨v3, rfl, ⟨n3, rfl, h3⟩, b4⟩
 replace hR := hR.below b4 hR.lt
 replace h1 := h1.below b4
 replace h2 := h2.below b4
 replace hB := hB.trans (b4.mono hB.size)
 clear c3_hR_0 c3_hR_1
 obtain ⟨c4_hR_0, c4_hR_1⟩ := hR.cells2
 obtain ⟨A3, L3, C3, rfl⟩ := h3.frm
 obtain ⟨p1, p2, p3⟩ := put2 hR (.bool (decide (c < 0))) (.slice A3 L3 C3) (by simp [noU]) hB (by omega)
 have q0 := hR.cell 0
 have z0 := hR.frozen 0
 have q1 := hR.cell 1
 have z1 := hR.frozen 1
 have P := Lib.hid (And.intro (⟨_, rfl, p2 _ _ h3⟩ : IsZ _ (.agg #[.bool (decide (c < 0)), .slice A3 L3 C3]) _) (And.intro p3 p1.cells2))
 clear p1 p2 p3 
 go_wp2_with fail
 obtain ⟨P1, P2, P3, P4⟩ := P.out
 exact bodyPost_ret (v := .agg #[.bool (decide (c < 0)), .slice A3 L3 C3]) (by simp [results, Tryz.results224, go_sem, P3, P4]) rfl ⟨_, rfl, P1, P2⟩
set_option maxRecDepth 100000 in
set_option maxHeartbeats 8000000 in
theorem rfar_any (v : Value) (z n d : Int) (w : World) (hz : IsZ w v z) (sz : Sz z.natAbs 4) (hn : I64 n) (hd : I64 d) :
   Calls Tryz.prog 225 #[v, .int .i64 n, .int .i64 d] w fun e w' => ∃ v', e = .returned v' ∧ IsZ w' v' ((z - n * d).natAbs : Int) ∧ Below w.heap.size w w' := by
 have hO1 := fun w => rzof_any n hn.1 hn.2 w
 have hO2 := fun w => rzof_any d hd.1 hd.2 w
 have s1 : Sz n.natAbs 1 := Sz.u64 (by have := hn.1; have := hn.2; unfold W64; omega)
 have s2 : Sz d.natAbs 1 := Sz.u64 (by have := hd.1; have := hd.2; unfold W64; omega)
 have s3 : Sz (n * d).natAbs 2 := by rw [Int.natAbs_mul]; exact s1.mul s2
 have hM := fun u v w h1 h2 => rzmul_any u v n d w h1 h2 (s1.more (by omega)) (s2.more (by omega))
 have hS := fun u v w h1 h2 => rzsub_any u v z (n * d) w h1 h2 (sz.more (by omega)) (s3.more (by omega))
 have hzv := hz
 obtain ⟨nz, rfl, hnz⟩ := hz
 obtain ⟨Az, Lz, Cz, rfl⟩ := hnz.frm
 have KEY : Hid (∀ w' u, IsN w' u (z - n * d).natAbs → IsZ w' (.agg #[.bool false, u]) ((z - n * d).natAbs : Int)) := Lib.hid fun w' u h => ⟨u, by rw [decide_eq_false (by omega)], by simpa using h⟩
 generalize hm : z - n * d = m at *
 generalize n * d = p at *
 clear hm s1 s2 s3 sz hn hd hnz
 obtain ⟨W0, hW, hT, hB⟩ := box2 w 30 30 #[.bool (decide (z < 0)), .slice Az Lz Cz] #[.bool false, .slice none 0 0]
 obtain ⟨g, hg⟩ : ∃ g, g = w.heap.size := ⟨_, rfl⟩
 have hW' := Lib.hid (And.intro hW hg)
 rw [← hg] at hT
 have hgw : w.heap.size ≤ g := by omega
 clear hW hg
 obtain ⟨hX, hR⟩ := hT
 replace hzv := hzv.below hB
 obtain ⟨c1_hX_0, c1_hX_1⟩ := hX.cells2
 obtain ⟨c1_hR_0, c1_hR_1⟩ := hR.cells2
 generalize decide (z < 0) = sg at *
 go_enter Tryz.func225, Tryz.ntmps225
 go_upto_region 1 with fail
 rw [← hW'.out.1, ← hW'.out.2]
 go_cut [7] (fun s wx => ∃ Z A1 L1 C1, s = .pointer (some ⟨Z, 0, none⟩) ∧ Blk wx Z 30 #[.bool (decide (m < 0)), .slice A1 L1 C1] ∧ IsN wx (.slice A1 L1 C1) m.natAbs ∧ Below W0.heap.size W0 wx)
 case first =>
   go_region_held3 (fun w' => w'.cell? ⟨g, 0, none⟩ = some (.bool sg) ∧ w'.cell? ⟨g, 1, none⟩ = some (.slice Az Lz Cz))
     (first | exact (hX.below (by first | assumption | exact bdrew _ | exact Below.refl _ _ | exact balloc (bdrew _) _ | exact balloc (by assumption) _ | exact balloc (Below.refl _ _) _ | exact bset (bset (by assumption) (by first | assumption | exact Nat.le_refl _) _) (by first | assumption | exact Nat.le_refl _) _) hX.lt).cells2)
     (first
       | (go_at_call 76; (with_reducible refine (hO1 _).mono ?_); rintro e w1 ⟨v1, rfl, h1, b1⟩; (first | ((first | have hXX := newX b1 W0 (by first | assumption | exact bdrew _) | have hXX := newX (undrew b1) W0 (by first | exact Below.refl _ _ | assumption)); obtain ⟨hZ, sZ⟩ := hXX; try simp only [World.size_drew] at hZ sZ) | (have hZ := hZ.below b1 hZ.lt) | skip); have B1 := bstep (a := W0) (by first | assumption | exact bdrew _ | exact Below.refl _ _ | exact balloc (bdrew _) _ | exact balloc (by assumption) _ | exact balloc (Below.refl _ _) _ | exact bset (bset (by assumption) (by first | assumption | exact Nat.le_refl _) _) (by first | assumption | exact Nat.le_refl _) _) b1)
       | (go_at_call 76; (with_reducible refine (hO2 _).mono ?_); rintro e w2 ⟨v2, rfl, h2, b2⟩; (first | ((first | have hXX := newX b2 W0 (by first | assumption | exact bdrew _) | have hXX := newX (undrew b2) W0 (by first | exact Below.refl _ _ | assumption)); obtain ⟨hZ, sZ⟩ := hXX; try simp only [World.size_drew] at hZ sZ) | (have hZ := hZ.below b2 hZ.lt) | skip); have B2 := bstep (a := W0) (by first | assumption | exact bdrew _ | exact Below.refl _ _ | exact balloc (bdrew _) _ | exact balloc (by assumption) _ | exact balloc (Below.refl _ _) _ | exact bset (bset (by assumption) (by first | assumption | exact Nat.le_refl _) _) (by first | assumption | exact Nat.le_refl _) _) b2; have h1 := h1.below (bstep (a := w1) (by first | exact Below.refl _ _ | exact balloc (Below.refl _ _) _ | exact bdrew _ | exact (balloc (Below.refl _ _) _).drew) b2))
       | (go_at_call 77; (with_reducible refine (hM _ _ _ ?_ ?_).mono ?_); exact h1.below (by first | exact Below.refl _ _ | exact balloc (Below.refl _ _) _ | exact bdrew _ | exact (balloc (Below.refl _ _) _).drew); exact h2.below (by first | exact Below.refl _ _ | exact balloc (Below.refl _ _) _ | exact bdrew _ | exact (balloc (Below.refl _ _) _).drew); rintro e w3 ⟨v3, rfl, h3, b3⟩; (first | ((first | have hXX := newX b3 W0 (by first | assumption | exact bdrew _) | have hXX := newX (undrew b3) W0 (by first | exact Below.refl _ _ | assumption)); obtain ⟨hZ, sZ⟩ := hXX; try simp only [World.size_drew] at hZ sZ) | (have hZ := hZ.below b3 hZ.lt) | skip); have B3 := bstep (a := W0) (by first | assumption | exact bdrew _ | exact Below.refl _ _ | exact balloc (bdrew _) _ | exact balloc (by assumption) _ | exact balloc (Below.refl _ _) _ | exact bset (bset (by assumption) (by first | assumption | exact Nat.le_refl _) _) (by first | assumption | exact Nat.le_refl _) _) b3)
       | (go_at_call 245; (with_reducible refine (hS _ _ _ ?_ ?_).mono ?_); exact hzv.below (by first | assumption | exact bdrew _ | exact Below.refl _ _ | exact balloc (bdrew _) _ | exact balloc (by assumption) _ | exact balloc (Below.refl _ _) _ | exact bset (bset (by assumption) (by first | assumption | exact Nat.le_refl _) _) (by first | assumption | exact Nat.le_refl _) _); exact h3.below (by first | exact Below.refl _ _ | exact balloc (Below.refl _ _) _ | exact bdrew _ | exact (balloc (Below.refl _ _) _).drew); rintro e w4 ⟨v4, rfl, ⟨n4, rfl, h4⟩, b4⟩; (first | ((first | have hXX := newX b4 W0 (by first | assumption | exact bdrew _) | have hXX := newX (undrew b4) W0 (by first | exact Below.refl _ _ | assumption)); obtain ⟨hZ, sZ⟩ := hXX; try simp only [World.size_drew] at hZ sZ) | (have hZ := hZ.below b4 hZ.lt) | skip); obtain ⟨A4, L4, C4, rfl⟩ := h4.frm; have B4 := bstep (a := W0) (by first | assumption | exact bdrew _ | exact Below.refl _ _ | exact balloc (bdrew _) _ | exact balloc (by assumption) _ | exact balloc (Below.refl _ _) _ | exact bset (bset (by assumption) (by first | assumption | exact Nat.le_refl _) _) (by first | assumption | exact Nat.le_refl _) _) b4; (try (obtain ⟨z0, z1⟩ := hZ.cells2; have y0 := hZ.frozen 0; have y1 := hZ.frozen 1))))
   all_goals (go_wp2_with fail; go_meet)
   all_goals
     first
       | exact ⟨_, _, _, _, rfl, Blk.new _ _ _, h4.below (balloc (Below.refl _ _) _), balloc B4 _⟩
       | (obtain ⟨p1, p2, p3⟩ := put2 hZ (.bool (decide (m < 0))) (.slice A4 L4 C4) (by simp [noU]) B4 (by first | assumption | exact Nat.le_refl _)
          exact ⟨_, _, _, _, rfl, p1, p2 _ _ h4, p3⟩)
 obtain ⟨Z, A1, L1, C1, rfl, hZ, hN, bz⟩ := hcut
 replace hzv := hzv.below bz
 replace hX := hX.below bz hX.lt
 replace hR := hR.below bz hR.lt
 replace hB := hB.trans (bz.mono hB.size)
 clear c1_hX_0 c1_hX_1 c1_hR_0 c1_hR_1
 obtain ⟨c2_hX_0, c2_hX_1⟩ := hX.cells2
 obtain ⟨c2_hR_0, c2_hR_1⟩ := hR.cells2
 clear c2_hX_0 c2_hX_1 c2_hR_0 c2_hR_1
 obtain ⟨c3_hX_0, c3_hX_1⟩ := hX.cells2
 obtain ⟨c3_hR_0, c3_hR_1⟩ := hR.cells2
 obtain ⟨c3_hZ_0, c3_hZ_1⟩ := hZ.cells2
 obtain ⟨p1, p2, p3⟩ := put2 hR (.bool false) (.slice A1 L1 C1) (by simp [noU]) hB (by omega)
 have q0 := hR.cell 0
 have z0 := hR.frozen 0
 have q1 := hR.cell 1
 have z1 := hR.frozen 1
 have P := Lib.hid (And.intro (KEY.out _ _ (p2 _ _ hN)) (And.intro p3 p1.cells2))
 clear p1 p2 p3 
 go_wp2_with fail
 obtain ⟨P1, P2, P3, P4⟩ := P.out
 exact bodyPost_ret (v := .agg #[.bool false, .slice A1 L1 C1]) (by simp [results, Tryz.results225, go_sem, P3, P4]) rfl ⟨_, rfl, P1, P2⟩
set_option maxHeartbeats 4000000 in
theorem rShare_any (k num d : Int) (hd : I64 d) (w : World) :
   Calls Tryz.prog 223 #[.int .i64 k, .int .i64 num, .int .i64 d] w fun e w' => e = .returned (.bool (share k num d)) ∧ w = w' := by
 have hS := fun w => rsigned_any k w
 unfold share
 by_cases k0 : k < 0
 · rw [decide_eq_false (p := 0 ≤ k ∧ k ≤ 3) (by omega), Bool.false_and]
   go_enter Tryz.func223, Tryz.ntmps223
   go_wp2
   go_ret
   exact ⟨rfl, rfl⟩
 · by_cases k1 : 3 < k
   · rw [decide_eq_false (p := 0 ≤ k ∧ k ≤ 3) (by omega), Bool.false_and]
     go_enter Tryz.func223, Tryz.ntmps223
     go_wp2
     go_ret
     exact ⟨rfl, rfl⟩
   · rw [decide_eq_true (p := 0 ≤ k ∧ k ≤ 3) (by omega), Bool.true_and]
     by_cases a : d < 1
     · rw [decide_eq_false (p := 1 ≤ d) (by omega), Bool.false_and]
       go_enter Tryz.func223, Tryz.ntmps223
       go_wp2
       go_ret
       exact ⟨rfl, rfl⟩
     · rw [decide_eq_true (p := 1 ≤ d) (by omega), Bool.true_and]
       by_cases b : d < num
       · rw [decide_eq_false (p := num ≤ d) (by omega), Bool.false_and]
         go_enter Tryz.func223, Tryz.ntmps223
         go_wp2
         go_ret
         exact ⟨rfl, rfl⟩
       · rw [decide_eq_true (p := num ≤ d) (by omega), Bool.true_and]
         have hw : IntKind.i64.wrap (-d) = -d := by rw [IntKind.wrap_i64]; have := hd.2; omega
         by_cases c : num < -d
         · rw [decide_eq_false (p := -d ≤ num) (by omega), Bool.false_and]
           go_enter Tryz.func223, Tryz.ntmps223
           go_wp2
           go_ret
           exact ⟨rfl, rfl⟩
         · rw [decide_eq_true (p := -d ≤ num) (by omega), Bool.true_and]
           by_cases e : num < 0
           · have e0 : ¬ 0 ≤ num := by omega
             rw [decide_eq_false e0, Bool.false_or]
             generalize sgn k = s at *
             go_enter Tryz.func223, Tryz.ntmps223
             go_wp2_with fail
             refine (hS _).mono ?_
             rintro e w1 ⟨rfl, rfl⟩
             go_wp2
             go_ret
             exact ⟨rfl, rfl⟩
           · have e0 : 0 ≤ num := by omega
             rw [decide_eq_true e0, Bool.true_or]
             go_enter Tryz.func223, Tryz.ntmps223
             go_wp2
             go_ret
             exact ⟨rfl, rfl⟩
end Go.Proofs.YtdnjdglekifhpaaGreat
