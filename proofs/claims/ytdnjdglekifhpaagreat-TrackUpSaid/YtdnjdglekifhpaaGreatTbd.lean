/- A bound a step on is no less than what it is exactly, and less than the next of the grid; greater ones come of greater ones; around a number lies what is so near, and nothing else. No conditions: every input. -/
import Derived.Test.YtdnjdglekifhpaaGreatTbc
namespace Go.Proofs.YtdnjdglekifhpaaGreat
open Go.ChangeShapes Go.WideShapes Go.ChangeAt Go.RowKit
set_option maxRecDepth 100000 in
theorem TrackUp_walk : LawWalk 4 Tryz.f4 := by
  intro W base args H enc ds p hval hA hlt hz
  rw [show Tryz.f4.params.toList = [52, 34, 2] from rfl] at hA hz
  obtain ⟨va, vb, vc, da, db, dc, pa, pb, pc, rfl, rfl, rfl, ha, hb, hc⟩ := trodAll_three hA
  obtain ⟨s1, p1, t1, s2, p2, t2, s3, p3, t3, l1, m1, l2, m2, l3, m3, rfl, ⟨h1, h2⟩, ⟨h3, h4⟩, ⟨h5, h6⟩⟩ := open_rat3 (hval 0 52 va rfl rfl) ha (fun x hx => hlt x (by simp [hx]))
  obtain ⟨beta, f, rfl, i1, _⟩ := open_int2 (hval 1 34 vb rfl rfl) hb
  obtain ⟨n, rfl, rfl, rfl, wn⟩ := open_int Tryz.underlying2 (hval 2 2 vc rfl rfl) hc
  obtain ⟨A1, C1, rfl, _, _⟩ := id h1.frmL
  obtain ⟨D1, E1, rfl, _, _⟩ := id h2.frmL
  obtain ⟨A2, C2, rfl, _, _⟩ := id h3.frmL
  obtain ⟨D2, E2, rfl, _, _⟩ := id h4.frmL
  obtain ⟨A3, C3, rfl, _, _⟩ := id h5.frmL
  obtain ⟨D3, E3, rfl, _, _⟩ := id h6.frmL
  exact TrackUp_all s1 s2 s3 A1 D1 A2 D2 A3 D3 C1 E1 C2 E2 C3 E3 l1 m1 l2 m2 l3 m3 beta f n W ⟨h1, h2⟩ ⟨h3, h4⟩ ⟨h5, h6⟩ i1 (wf_I64 wn)
set_option maxRecDepth 100000 in
theorem TrackUp_holds : Rows.TrackUpSaid :=
  OpenClaim.holds_of_wide 4 Tryz.f4 rfl rfl rfl rfl rfl rfl rfl ⟨rfl, rfl, rfl, rfl, rfl⟩ rfl rfl rfl rfl rfl (by kernel_rfl) Tryz.func4 (by kernel_rfl)
    (of_decide_eq_true (by kernel_rfl)) (by unfold Func.isWrapper; first | (rw [if_pos (by decide +kernel)]; kernel_rfl) | (rw [if_neg (by decide +kernel)]; exact ⟨rfl, rfl⟩))
    (fun os started H enc _ => law_lifted 4 Tryz.f4 Rows.trackUpSpec Rows.trackUpRow.domain rfl rfl rfl Tryz.func4 (by kernel_rfl) (by decide +kernel)
      (fun H ds h => by
        have h' : ds.length = 3 := h
        match ds, h' with
        | [_, _, _], _ => exact ⟨rfl, rfl, rfl⟩)
      (fun os _ H enc => ChangeSpec.witness6 (enc := enc) (C := Tryz.checked) false ⟨#[], #[.agg #[.bool false, .slice none 0 0, .slice none 0 0, .bool false, .slice none 0 0, .slice none 0 0, .bool false, .slice none 0 0, .slice none 0 0], .agg #[.int .i64 0, .int .i64 0], .int .i64 0], []⟩ 8 (by kernel_rfl) (by kernel_rfl) (by kernel_rfl) (by kernel_rfl))
      TrackUp_walk os started H enc)
end Go.Proofs.YtdnjdglekifhpaaGreat
