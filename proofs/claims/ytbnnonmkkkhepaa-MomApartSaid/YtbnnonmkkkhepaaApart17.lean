/- APART: places hang on nothing but themselves: of rows in two parts new rows are those of both. No conditions: every input. Printed by gen_apart17.py. -/
import Derived.Test.YtbnnonmkkkhepaaTurned
import Derived.Test.YtbnnonmkkkhepaaMom6
import Derived.Test.YtbnnonmkkkhepaaOpen2
import Derived.Test.YtbnnonmkkkhepaaThree
import Derived.Test.YtbnnonmkkkhepaaInv
import Derived.Test.YtbnnonmkkkhepaaOut
import Derived.Deep.RegionHeld3
import Derived.Deep.DrawnRows
namespace Go.Proofs.Ytbnnonmkkkhepaa
open Go.RowKit
attribute [local go_sem ↓] Go.wp_at_zero Go.wp_at_succ


theorem put4e {w : World} {R : Nat} {t : TypeId} {a b c d : Value} (hR : Blk w R t #[a, b, c, d]) (x y z u : Value) (hcs : (#[a, b, c, d] : Array Value).all noI = true) {B0 : Nat} {w0 : World} (hB : Below B0 w0 w) (hBR : B0 ≤ R) :
    ∃ w5, w5 = ((((w.setCell ⟨R, 0, none⟩ x).setCell ⟨R, 1, none⟩ y).setCell ⟨R, 2, none⟩ z).setCell ⟨R, 3, none⟩ u) ∧ Blk w5 R t #[x, y, z, u] ∧ (∀ v l, IsI w v l → IsI w5 v l) ∧ Below B0 w0 w5 ∧ (∀ X t' cs, Blk w X t' cs → t' ≠ t → Blk w5 X t' cs) := by
  obtain ⟨p1, p2, p3⟩ := put4 hR x y z u hcs hB hBR
  refine ⟨_, rfl, p1, p2, p3, fun X t' cs h hne => ?_⟩
  have hX : X ≠ R := by
    rintro rfl
    unfold Blk at h hR
    rw [hR] at h
    injection h with h
    injection h with h1 h2 h3
    exact hne h2.symm
  exact (((h.far (p := ⟨R, 0, none⟩) hX x).far (p := ⟨R, 1, none⟩) hX y).far (p := ⟨R, 2, none⟩) hX z).far (p := ⟨R, 3, none⟩) hX u
theorem Blk.cells8 {w : World} {g : Nat} {t : TypeId} {a b c d a' b' c' d' : Value} (h : Blk w g t #[a, b, c, d, a', b', c', d']) : w.cell? ⟨g, 0, none⟩ = some a ∧ w.cell? ⟨g, 1, none⟩ = some b ∧ w.cell? ⟨g, 2, none⟩ = some c ∧ w.cell? ⟨g, 3, none⟩ = some d ∧ w.cell? ⟨g, 4, none⟩ = some a' ∧ w.cell? ⟨g, 5, none⟩ = some b' ∧ w.cell? ⟨g, 6, none⟩ = some c' ∧ w.cell? ⟨g, 7, none⟩ = some d' := ⟨h.cell 0, h.cell 1, h.cell 2, h.cell 3, h.cell 4, h.cell 5, h.cell 6, h.cell 7⟩
theorem step_append_w {P : Program} (w : World) {ops : Array Oper} {o : Oper} {a : Act} {K : Act → World → Prop} {Q : Exit → Act → World → Prop} {E : Prop} (hw : Region.wanted o (yielded ops a.tmps) = true) (s x : Operand) (t : TypeId)
    (ho : o.op = .call { callee := .builtin .append, args := #[s, x], argTypes := #[t, t] })
    (base : Nat) (e : TypeId) (i : TypeInfo) (z : Value) (size bytes : Nat) (ht : P.underlying t = some (.slice e)) (hi : P.info? e = some i) (hz : i.zero = some z)
    (hsize : i.size = size) (hby : i.bytes = bytes) (hzs : z.cells.size = size) (hsz : 0 < size)
    (v : Value) (n : Nat) (xs : List Value) (hs : a.eval s = v) (hown : w.ownsRow base e size v n xs)
    (B : Nat) (A : Option Addr) (m c : Nat) (news : List Value) (hx : a.eval x = .slice A m c) (hr : Reads w B size A m news) (h1 : ∀ u ∈ news, u.oneCell' = true)
    (h63 : n + m ≤ maxLen) (hbytes : (n + m) * bytes ≤ 140737488355328) (hbase : base ≤ w.heap.size)
    (h : ∀ v' w', w'.ownsRow base e size v' (n + m) (xs ++ news) → w.grownBy w' v.ownBlock → (v'.ownBlock = v.ownBlock ∨ v'.ownBlock = some w.heap.size) → K (a.put o.dst v') w') :
    if Region.wanted o (yielded ops a.tmps) = true then Oper.wp P o a w K Q else E := by
  rw [if_pos hw]
  exact wp_append_any w s x t ho base e i z size bytes ht hi hz hsize hby hzs hsz v n xs hs hown B A m c news hx hr h1 h63 hbytes hbase h
theorem litE (w : World) : ∃ W, W = w.alloc (.cells #[] 2) ∧ W.ownsRow w.heap.size 2 1 (.slice (some ⟨w.heap.size, 0, none⟩) 0 0) 0 (is []) ∧ Below w.heap.size w W :=
  ⟨_, rfl, World.ownsRow_lit w #[] 0 (base := w.heap.size) (e := 2) (size := 1) (Nat.le_refl _) (by unfold maxLen; omega) rfl, (Below.refl _ w).alloc (Nat.le_refl _) _⟩
theorem AllIn.app {A B : List Int} (h : AllIn A) (k : AllIn B) : AllIn (A ++ B) := AllIn.of_mem fun x hx => (List.mem_append.1 hx).elim (fun e => h.mem e) (fun e => k.mem e)
theorem same_yes (va vb : Value) (l : List Int) (w : World) (ha : IsI w va l) (hb : IsI w vb l) : Calls Try.prog 21 #[va, vb] w fun e w' => e = .returned (.bool true) ∧ ∃ n, w' = w.drewN n :=
  (same_any va vb l l w ha hb).mono (fun e w' k => ⟨k.1.trans (by simp), k.2⟩)
theorem stW_le (lr mu wd : Int) (nest : Bool) (f : Int) (W M G : List Int) : (stWs lr mu wd nest f W M G).length ≤ W.length := by unfold stWs; split <;> simp
theorem stM_le (lr mu wd : Int) (nest : Bool) (f : Int) (W M G : List Int) : (stMs lr mu wd nest f W M G).length ≤ W.length := by unfold stMs; split <;> simp
theorem frmA {w : World} {v : Value} {l : List Int} (h : IsI w v l) : ∃ A C, v = .slice A l.length C := by obtain ⟨A, C, e, _⟩ := h; exact ⟨A, C, e⟩
set_option maxRecDepth 100000 in
set_option maxHeartbeats 16000000 in
theorem MomApart_few (lr mu wd fr : Int) (nest : Bool) (c0 c1 c2 c3 c4 c5 c6 c7 : Value) (A B C D A' B' C' D' : List Int) (wS : World) (h : IsR wS (.agg #[c0, c1, c2, c3]) A B C D) (h' : IsR wS (.agg #[c4, c5, c6, c7]) A' B' C' D')
    (hlr : In64 lr) (hmu : In64 mu) (hwd : In64 wd) (hs : Short A B C D) (hs' : Short A' B' C' D') (h1 : A.length + B.length + C.length + D.length ≤ 18) (h2 : A'.length + B'.length + C'.length + D'.length ≤ 18) :
    Calls Try.prog 5 #[.agg #[.int .i64 lr, .int .i64 mu, .int .i64 wd, .bool nest], .agg #[c0, c1, c2, c3, c4, c5, c6, c7], .int .i64 fr] wS fun e w' => e = .returned (.bool true) ∧ Below wS.heap.size wS w' := by
  obtain ⟨i0, hi, hz0, hz1, hz2⟩ := info_parts info_i64
  have hF1 := fun v w h => few17_any v A B C D 18 w h hs.2.1 hs.2.2.1 hs.2.2.2.1 hs.2.2.2.2 (by omega)
  have hF2 := fun v w h => few17_any v A' B' C' D' 18 w h hs'.2.1 hs'.2.2.1 hs'.2.2.2.1 hs'.2.2.2.2 (by omega)
  rw [decide_eq_true h1] at hF1
  rw [decide_eq_true h2] at hF2
  have hv := h
  have hv' := h'
  obtain ⟨_, _, _, _, e, ha, hb, hc, hd⟩ := h
  obtain ⟨_, _, _, _, e', ha', hb', hc', hd'⟩ := h'
  obtain ⟨Aa, Ca, rfl⟩ := frmA ha
  obtain ⟨Ab, Cb, rfl⟩ := frmA hb
  obtain ⟨Ac, Cc, rfl⟩ := frmA hc
  obtain ⟨Ad, Cd, rfl⟩ := frmA hd
  obtain ⟨Aa', Ca', rfl⟩ := frmA ha'
  obtain ⟨Ab', Cb', rfl⟩ := frmA hb'
  obtain ⟨Ac', Cc', rfl⟩ := frmA hc'
  obtain ⟨Ad', Cd', rfl⟩ := frmA hd'
  obtain ⟨rfl, rfl, rfl, rfl⟩ : c0 = .slice Aa A.length Ca ∧ c1 = .slice Ab B.length Cb ∧ c2 = .slice Ac C.length Cc ∧ c3 = .slice Ad D.length Cd := by simpa using e
  obtain ⟨rfl, rfl, rfl, rfl⟩ : c4 = .slice Aa' A'.length Ca' ∧ c5 = .slice Ab' B'.length Cb' ∧ c6 = .slice Ac' C'.length Cc' ∧ c7 = .slice Ad' D'.length Cd' := by simpa using e'
  clear e e'
  obtain ⟨W0, hW, hT, hB⟩ := box2 wS 23 46 #[.int .i64 lr, .int .i64 mu, .int .i64 wd, .bool nest] #[.slice Aa A.length Ca, .slice Ab B.length Cb, .slice Ac C.length Cc, .slice Ad D.length Cd, .slice Aa' A'.length Ca', .slice Ab' B'.length Cb', .slice Ac' C'.length Cc', .slice Ad' D'.length Cd']
  obtain ⟨g, hg⟩ : ∃ g, g = wS.heap.size := ⟨_, rfl⟩
  have hW' := Lib.hid (And.intro hW hg)
  rw [← hg] at hT
  have hgw : wS.heap.size ≤ g := by omega
  clear hW hg
  obtain ⟨hA, hL⟩ := hT
  have l0 := hL.cell 0
  have l1 := hL.cell 1
  have l2 := hL.cell 2
  have l3 := hL.cell 3
  have l4 := hL.cell 4
  have l5 := hL.cell 5
  have l6 := hL.cell 6
  have l7 := hL.cell 7
  go_enter Try.func5, Try.ntmps5
  go_wp2_with fail
  rw [← hW'.out.1, ← hW'.out.2]
  refine (hF1 _ _ (hv.below hB)).mono ?_
  rintro x w1 ⟨rfl, b1⟩
  have hL1 := hL.below b1 hL.lt
  have hA1 := hA.below b1 hA.lt
  have hB1 := hB.trans (b1.mono hB.size)
  clear l0 l1 l2 l3 l4 l5 l6 l7 hL hA hB b1 hW' W0
  have l4 := hL1.cell 4
  have l5 := hL1.cell 5
  have l6 := hL1.cell 6
  have l7 := hL1.cell 7
  go_wp2_with fail
  refine (hF2 _ _ (hv'.below hB1)).mono ?_
  rintro x w2 ⟨rfl, b1⟩
  have hL := hL1.below b1 hL1.lt
  have hA := hA1.below b1 hA1.lt
  have hB := hB1.trans (b1.mono hB1.size)
  clear l4 l5 l6 l7 hL1 hA1 hB1 b1 w1
  have hdD := hd
  go_upto_region 3 with fail
  have hA0 := hA.drew
  have hL0 := hL.drew
  have hB0 : Below wS.heap.size wS w2.drew := hB.drew
  refine wp_region_noPanic ?_
  refine wp_region_held_drew (S := fun w' => w'.cell? ⟨g + 1, 0, none⟩ = some (.slice Aa A.length Ca) ∧ w'.cell? ⟨g + 1, 1, none⟩ = some (.slice Ab B.length Cb) ∧ w'.cell? ⟨g + 1, 2, none⟩ = some (.slice Ac C.length Cc) ∧ w'.cell? ⟨g + 1, 3, none⟩ = some (.slice Ad D.length Cd) ∧ w'.cell? ⟨g + 1, 4, none⟩ = some (.slice Aa' A'.length Ca') ∧ w'.cell? ⟨g + 1, 5, none⟩ = some (.slice Ab' B'.length Cb') ∧ w'.cell? ⟨g + 1, 6, none⟩ = some (.slice Ac' C'.length Cc') ∧ w'.cell? ⟨g + 1, 7, none⟩ = some (.slice Ad' D'.length Cd')) (by kernel_rfl) ?_ (fun hHeld => ?_)
  · exact ⟨hL0.cell 0, hL0.cell 1, hL0.cell 2, hL0.cell 3, hL0.cell 4, hL0.cell 5, hL0.cell 6, hL0.cell 7⟩
  refine wpAnyH_take (i := 1) (v := ?pv1) rfl (by kernel_rfl) (by kernel_rfl) (by kernel_rfl) (fun _ _ _ h => h) (Or.inl ⟨by kernel_rfl, ?phy1⟩) (by assumption) ?prest1
  case phy1 => (intro w hSw; (try dsimp only at hSw); go_simp; try (with_reducible rfl))
  try simp only [Act.put, List.getElem_toArray, List.getElem_cons_succ, List.getElem_cons_zero, List.setIfInBounds_toArray, List.set_cons_zero, List.set_cons_succ]
  refine wpAnyH_take (i := 2) (v := ?pv2) rfl (by kernel_rfl) (by kernel_rfl) (by kernel_rfl) (fun _ _ _ h => h) (Or.inl ⟨by kernel_rfl, ?phy2⟩) (by assumption) ?prest2
  case phy2 => (intro w hSw; (try dsimp only at hSw); go_simp; try (with_reducible rfl))
  try simp only [Act.put, List.getElem_toArray, List.getElem_cons_succ, List.getElem_cons_zero, List.setIfInBounds_toArray, List.set_cons_zero, List.set_cons_succ]
  refine wpAnyH_take (i := 3) (v := ?pv3) rfl (by kernel_rfl) (by kernel_rfl) (by kernel_rfl) (fun _ _ _ h => h) (Or.inl ⟨by kernel_rfl, ?phy3⟩) (by assumption) ?prest3
  case phy3 => (intro w hSw; (try dsimp only at hSw); go_simp; try (with_reducible rfl))
  try simp only [Act.put, List.getElem_toArray, List.getElem_cons_succ, List.getElem_cons_zero, List.setIfInBounds_toArray, List.set_cons_zero, List.set_cons_succ]
  refine wpAnyH_take (i := 5) (v := ?pv5) rfl (by kernel_rfl) (by kernel_rfl) (by kernel_rfl) (fun _ _ _ h => h) (Or.inl ⟨by kernel_rfl, ?phy5⟩) (by assumption) ?prest5
  case phy5 => (intro w hSw; (try dsimp only at hSw); go_simp; try (with_reducible rfl))
  try simp only [Act.put, List.getElem_toArray, List.getElem_cons_succ, List.getElem_cons_zero, List.setIfInBounds_toArray, List.set_cons_zero, List.set_cons_succ]
  refine wpAnyH_take (i := 6) (v := ?pv6) rfl (by kernel_rfl) (by kernel_rfl) (by kernel_rfl) (fun _ _ _ h => h) (Or.inl ⟨by kernel_rfl, ?phy6⟩) (by assumption) ?prest6
  case phy6 => (intro w hSw; (try dsimp only at hSw); go_simp; try (with_reducible rfl))
  try simp only [Act.put, List.getElem_toArray, List.getElem_cons_succ, List.getElem_cons_zero, List.setIfInBounds_toArray, List.set_cons_zero, List.set_cons_succ]
  refine wpAnyH_take (i := 7) (v := ?pv7) rfl (by kernel_rfl) (by kernel_rfl) (by kernel_rfl) (fun _ _ _ h => h) (Or.inl ⟨by kernel_rfl, ?phy7⟩) (by assumption) ?prest7
  case phy7 => (intro w hSw; (try dsimp only at hSw); go_simp; try (with_reducible rfl))
  try simp only [Act.put, List.getElem_toArray, List.getElem_cons_succ, List.getElem_cons_zero, List.setIfInBounds_toArray, List.set_cons_zero, List.set_cons_succ]
  refine wpAnyH_take (i := 10) (v := ?pv10) rfl (by kernel_rfl) (by kernel_rfl) (by kernel_rfl) (fun _ _ _ h => h) (Or.inl ⟨by kernel_rfl, ?phy10⟩) (by assumption) ?prest10
  case phy10 => (intro w hSw; (try dsimp only at hSw); go_simp; try (with_reducible rfl))
  try simp only [Act.put, List.getElem_toArray, List.getElem_cons_succ, List.getElem_cons_zero, List.setIfInBounds_toArray, List.set_cons_zero, List.set_cons_succ]
  refine wpAnyH_take (i := 11) (v := ?pv11) rfl (by kernel_rfl) (by kernel_rfl) (by kernel_rfl) (fun _ _ _ h => h) (Or.inl ⟨by kernel_rfl, ?phy11⟩) (by assumption) ?prest11
  case phy11 => (intro w hSw; (try dsimp only at hSw); go_simp; try (with_reducible rfl))
  try simp only [Act.put, List.getElem_toArray, List.getElem_cons_succ, List.getElem_cons_zero, List.setIfInBounds_toArray, List.set_cons_zero, List.set_cons_succ]
  refine wpAnyH_take (i := 12) (v := ?pv12) rfl (by kernel_rfl) (by kernel_rfl) (by kernel_rfl) (fun _ _ _ h => h) (Or.inl ⟨by kernel_rfl, ?phy12⟩) (by assumption) ?prest12
  case phy12 => (intro w hSw; (try dsimp only at hSw); go_simp; try (with_reducible rfl))
  try simp only [Act.put, List.getElem_toArray, List.getElem_cons_succ, List.getElem_cons_zero, List.setIfInBounds_toArray, List.set_cons_zero, List.set_cons_succ]
  refine wpAnyH_take (i := 14) (v := ?pv14) rfl (by kernel_rfl) (by kernel_rfl) (by kernel_rfl) (fun _ _ _ h => h) (Or.inl ⟨by kernel_rfl, ?phy14⟩) (by assumption) ?prest14
  case phy14 => (intro w hSw; (try dsimp only at hSw); go_simp; try (with_reducible rfl))
  try simp only [Act.put, List.getElem_toArray, List.getElem_cons_succ, List.getElem_cons_zero, List.setIfInBounds_toArray, List.set_cons_zero, List.set_cons_succ]
  refine wpAnyH_take (i := 15) (v := ?pv15) rfl (by kernel_rfl) (by kernel_rfl) (by kernel_rfl) (fun _ _ _ h => h) (Or.inl ⟨by kernel_rfl, ?phy15⟩) (by assumption) ?prest15
  case phy15 => (intro w hSw; (try dsimp only at hSw); go_simp; try (with_reducible rfl))
  try simp only [Act.put, List.getElem_toArray, List.getElem_cons_succ, List.getElem_cons_zero, List.setIfInBounds_toArray, List.set_cons_zero, List.set_cons_succ]
  refine wpAnyH_take (i := 16) (v := ?pv16) rfl (by kernel_rfl) (by kernel_rfl) (by kernel_rfl) (fun _ _ _ h => h) (Or.inl ⟨by kernel_rfl, ?phy16⟩) (by assumption) ?prest16
  case phy16 => (intro w hSw; (try dsimp only at hSw); go_simp; try (with_reducible rfl))
  try simp only [Act.put, List.getElem_toArray, List.getElem_cons_succ, List.getElem_cons_zero, List.setIfInBounds_toArray, List.set_cons_zero, List.set_cons_succ]
  refine wpAnyH_take (i := 19) (v := ?pv19) rfl (by kernel_rfl) (by kernel_rfl) (by kernel_rfl) (fun _ _ _ h => h) (Or.inl ⟨by kernel_rfl, ?phy19⟩) (by assumption) ?prest19
  case phy19 => (intro w hSw; (try dsimp only at hSw); go_simp; try (with_reducible rfl))
  try simp only [Act.put, List.getElem_toArray, List.getElem_cons_succ, List.getElem_cons_zero, List.setIfInBounds_toArray, List.set_cons_zero, List.set_cons_succ]
  refine wpAnyH_take (i := 20) (v := ?pv20) rfl (by kernel_rfl) (by kernel_rfl) (by kernel_rfl) (fun _ _ _ h => h) (Or.inl ⟨by kernel_rfl, ?phy20⟩) (by assumption) ?prest20
  case phy20 => (intro w hSw; (try dsimp only at hSw); go_simp; try (with_reducible rfl))
  try simp only [Act.put, List.getElem_toArray, List.getElem_cons_succ, List.getElem_cons_zero, List.setIfInBounds_toArray, List.set_cons_zero, List.set_cons_succ]
  refine wpAnyH_take (i := 21) (v := ?pv21) rfl (by kernel_rfl) (by kernel_rfl) (by kernel_rfl) (fun _ _ _ h => h) (Or.inl ⟨by kernel_rfl, ?phy21⟩) (by assumption) ?prest21
  case phy21 => (intro w hSw; (try dsimp only at hSw); go_simp; try (with_reducible rfl))
  try simp only [Act.put, List.getElem_toArray, List.getElem_cons_succ, List.getElem_cons_zero, List.setIfInBounds_toArray, List.set_cons_zero, List.set_cons_succ]
  refine wpAnyH_take (i := 23) (v := ?pv23) rfl (by kernel_rfl) (by kernel_rfl) (by kernel_rfl) (fun _ _ _ h => h) (Or.inl ⟨by kernel_rfl, ?phy23⟩) (by assumption) ?prest23
  case phy23 => (intro w hSw; (try dsimp only at hSw); go_simp; try (with_reducible rfl))
  try simp only [Act.put, List.getElem_toArray, List.getElem_cons_succ, List.getElem_cons_zero, List.setIfInBounds_toArray, List.set_cons_zero, List.set_cons_succ]
  refine wpAnyH_take (i := 24) (v := ?pv24) rfl (by kernel_rfl) (by kernel_rfl) (by kernel_rfl) (fun _ _ _ h => h) (Or.inl ⟨by kernel_rfl, ?phy24⟩) (by assumption) ?prest24
  case phy24 => (intro w hSw; (try dsimp only at hSw); go_simp; try (with_reducible rfl))
  try simp only [Act.put, List.getElem_toArray, List.getElem_cons_succ, List.getElem_cons_zero, List.setIfInBounds_toArray, List.set_cons_zero, List.set_cons_succ]
  refine wpAnyH_take (i := 25) (v := ?pv25) rfl (by kernel_rfl) (by kernel_rfl) (by kernel_rfl) (fun _ _ _ h => h) (Or.inl ⟨by kernel_rfl, ?phy25⟩) (by assumption) ?prest25
  case phy25 => (intro w hSw; (try dsimp only at hSw); go_simp; try (with_reducible rfl))
  try simp only [Act.put, List.getElem_toArray, List.getElem_cons_succ, List.getElem_cons_zero, List.setIfInBounds_toArray, List.set_cons_zero, List.set_cons_succ]
  refine wpAnyH_until (fun l a w => ∃ (b0 b4 b8 b9 b13 b17 b18 b22 b26 b27 b28 : Bool) (x25 x29 x33 x34 x38 x42 x43 x47 x51 x52 x7 : Value) (n7 : Nat), l = #[b0, true, true, true, b4, true, true, true, b8, b9, true, true, true, b13, true, true, true, b17, b18, true, true, true, b22, true, true, true, b26, b27, b28, false] ∧ a = ⟨((.agg #[.int .i64 lr, .int .i64 mu, .int .i64 wd, .bool nest]) :: (.agg #[.slice Aa A.length Ca, .slice Ab B.length Cb, .slice Ac C.length Cc, .slice Ad D.length Cd, .slice Aa' A'.length Ca', .slice Ab' B'.length Cb', .slice Ac' C'.length Cc', .slice Ad' D'.length Cd']) :: (.int .i64 fr) :: (.pointer (some ⟨g, 0, none⟩)) :: (.pointer (some ⟨g + 1, 0, none⟩)) :: undef :: (.bool false) :: x7 :: undef :: undef :: undef :: undef :: undef :: undef :: (.pointer (some ⟨g + 1, 0, none⟩)) :: (.agg #[.slice Aa A.length Ca, .slice Ab B.length Cb, .slice Ac C.length Cc, .slice Ad D.length Cd]) :: (.bool true) :: (.bool false) :: (.bool false) :: (.pointer (some ⟨g + 1, 4, none⟩)) :: (.agg #[.slice Aa' A'.length Ca', .slice Ab' B'.length Cb', .slice Ac' C'.length Cc', .slice Ad' D'.length Cd']) :: (.bool true) :: (.bool false) :: (.bool false) :: undef :: x25 :: (.pointer (some ⟨g + 1, 0, none⟩)) :: (.pointer (some ⟨g + 1, 0, none⟩)) :: (.slice Aa A.length Ca) :: x29 :: (.pointer (some ⟨g + 1, 4, none⟩)) :: (.pointer (some ⟨g + 1, 4, none⟩)) :: (.slice Aa' A'.length Ca') :: x33 :: x34 :: (.pointer (some ⟨g + 1, 0, none⟩)) :: (.pointer (some ⟨g + 1, 1, none⟩)) :: (.slice Ab B.length Cb) :: x38 :: (.pointer (some ⟨g + 1, 4, none⟩)) :: (.pointer (some ⟨g + 1, 5, none⟩)) :: (.slice Ab' B'.length Cb') :: x42 :: x43 :: (.pointer (some ⟨g + 1, 0, none⟩)) :: (.pointer (some ⟨g + 1, 3, none⟩)) :: (.slice Ad D.length Cd) :: x47 :: (.pointer (some ⟨g + 1, 4, none⟩)) :: (.pointer (some ⟨g + 1, 7, none⟩)) :: (.slice Ad' D'.length Cd') :: x51 :: x52 :: undef :: undef :: undef :: undef :: undef :: undef :: undef :: undef :: undef :: undef :: undef :: undef :: undef :: undef :: undef :: undef :: undef :: undef :: undef :: undef :: undef :: undef :: undef :: undef :: undef :: undef :: undef :: undef :: undef :: undef :: undef :: undef :: undef :: undef :: undef :: undef :: undef :: undef :: undef :: undef :: undef :: undef :: undef :: undef :: undef :: undef :: undef :: undef :: undef :: undef :: undef :: undef :: undef :: undef :: undef :: undef :: undef :: undef :: undef :: undef :: undef :: undef :: undef :: undef :: undef :: undef :: undef :: undef :: undef :: undef :: []).toArray, []⟩ ∧ Three w wS.heap.size (on3 b0 b9 b18) (fn3 (cur b4 b8 x25 x29 x33) (cur b13 b17 x34 x38 x42) (cur b22 b26 x43 x47 x51)) (fn3 (cur b4 b8 [] A (A ++ A')) (cur b13 b17 [] B (B ++ B')) (cur b22 b26 [] D (D ++ D'))) ∧ (b27 = true → x52 = .agg #[x33, x42, .slice none 0 0, x51]) ∧ Got 26 #[.slice none 0 0, .slice none 0 0, .slice none 0 0, .slice none 0 0] wS.heap.size w b28 x7 n7 ∧ Blk w g 23 #[.int .i64 lr, .int .i64 mu, .int .i64 wd, .bool nest] ∧ Blk w (g + 1) 46 #[.slice Aa A.length Ca, .slice Ab B.length Cb, .slice Ac C.length Cc, .slice Ad D.length Cd, .slice Aa' A'.length Ca', .slice Ab' B'.length Cb', .slice Ac' C'.length Cc', .slice Ad' D'.length Cd'] ∧ Below wS.heap.size wS w ∧ (b4 = true → b0 = true) ∧ (b8 = true → b4 = true) ∧ (b13 = true → b9 = true) ∧ (b13 = true → b8 = true) ∧ (b17 = true → b13 = true) ∧ (b22 = true → b18 = true) ∧ (b22 = true → b17 = true) ∧ (b26 = true → b22 = true) ∧ (b27 = true → b26 = true)) (fun l => l.getD 0 false && l.getD 4 false && l.getD 8 false && l.getD 9 false && l.getD 13 false && l.getD 17 false && l.getD 18 false && l.getD 22 false && l.getD 26 false && l.getD 27 false && l.getD 28 false) (hord_of (by kernel_rfl)) ?hsz ?hT ?hgo ?hstep _ _ _ _ ⟨false, false, false, false, false, false, false, false, false, false, false, undef, undef, undef, undef, undef, undef, undef, undef, undef, undef, undef, 0, by kernel_rfl, by kernel_rfl, Three.start, (fun h => nomatch h), Got.no, hA0, hL0, hB0, (fun h => nomatch h), (fun h => nomatch h), (fun h => nomatch h), (fun h => nomatch h), (fun h => nomatch h), (fun h => nomatch h), (fun h => nomatch h), (fun h => nomatch h), (fun h => nomatch h)⟩ (Nat.le_of_ble_eq_true (by kernel_rfl))
  case hsz =>
    rintro l a w ⟨b0, b4, b8, b9, b13, b17, b18, b22, b26, b27, b28, x25, x29, x33, x34, x38, x42, x43, x47, x51, x52, x7, n7, rfl, rfl, hT, h52, h7, hA, hL, hBel, i4_0, i8_4, i13_9, i13_8, i17_13, i22_18, i22_17, i26_22, i27_26⟩
    rfl
  case hT =>
    intro l a w _ h
    show (l.getD 0 false && l.getD 4 false && l.getD 8 false && l.getD 9 false && l.getD 13 false && l.getD 17 false && l.getD 18 false && l.getD 22 false && l.getD 26 false && l.getD 27 false && l.getD 28 false) = true
    rw [h 0 (by simp), h 4 (by simp), h 8 (by simp), h 9 (by simp), h 13 (by simp), h 17 (by simp), h 18 (by simp), h 22 (by simp), h 26 (by simp), h 27 (by simp), h 28 (by simp)]
    rfl
  case hgo =>
    rintro fuel l a w ⟨b0, b4, b8, b9, b13, b17, b18, b22, b26, b27, b28, x25, x29, x33, x34, x38, x42, x43, x47, x51, x52, x7, n7, rfl, rfl, hT, h52, h7, hA, hL, hBel, i4_0, i8_4, i13_9, i13_8, i17_13, i22_18, i22_17, i26_22, i27_26⟩ hTl hc
    change (b0 && b4 && b8 && b9 && b13 && b17 && b18 && b22 && b26 && b27 && b28) = true at hTl
    simp only [Bool.and_eq_true] at hTl
    obtain ⟨⟨⟨⟨⟨⟨⟨⟨⟨⟨rfl, rfl⟩, rfl⟩, rfl⟩, rfl⟩, rfl⟩, rfl⟩, rfl⟩, rfl⟩, rfl⟩, rfl⟩ := hTl
    have q0 : w.ownsRow wS.heap.size 2 1 x33 (A ++ A').length (is (A ++ A')) := hT.own 0 rfl
    have r0 : IsI w x33 (A ++ A') := IsI.of_own q0
    have n0 : ∀ Y t c, Blk w Y t c → t ≠ 2 → x33.ownBlock ≠ some Y := fun Y t c hb hne => own_type q0 hb hne
    rw [List.length_append] at q0
    obtain ⟨A1, C1, rfl, _⟩ := own_form q0
    have q1 : w.ownsRow wS.heap.size 2 1 x42 (B ++ B').length (is (B ++ B')) := hT.own 1 rfl
    have r1 : IsI w x42 (B ++ B') := IsI.of_own q1
    have n1 : ∀ Y t c, Blk w Y t c → t ≠ 2 → x42.ownBlock ≠ some Y := fun Y t c hb hne => own_type q1 hb hne
    rw [List.length_append] at q1
    obtain ⟨A2, C2, rfl, _⟩ := own_form q1
    have q2 : w.ownsRow wS.heap.size 2 1 x51 (D ++ D').length (is (D ++ D')) := hT.own 2 rfl
    have r2 : IsI w x51 (D ++ D') := IsI.of_own q2
    have n2 : ∀ Y t c, Blk w Y t c → t ≠ 2 → x51.ownBlock ≠ some Y := fun Y t c hb hne => own_type q2 hb hne
    rw [List.length_append] at q2
    obtain ⟨A3, C3, rfl, _⟩ := own_form q2
    obtain rfl := h52 rfl
    obtain ⟨rfl, m7, k7⟩ := h7 rfl
    obtain ⟨fuel, rfl⟩ : ∃ m, fuel = m + 1 := ⟨fuel - 1, by have : 1 ≤ fuel := hc; omega⟩
    clear hc
    have u0 := k7.cell 0
    have uf0 := k7.frozen 0
    have u1 := k7.cell 1
    have uf1 := k7.frozen 1
    have u2 := k7.cell 2
    have uf2 := k7.frozen 2
    have u3 := k7.cell 3
    have uf3 := k7.frozen 3
    obtain ⟨w5, e5, h7, p2, hB5, p4⟩ := put4e k7 (.slice A1 (A.length + A'.length) C1) (.slice A2 (B.length + B'.length) C2) (.slice none 0 0) (.slice A3 (D.length + D'.length) C3) (by simp [noI]) hBel m7
    have hA5 := p4 _ _ _ hA (by decide)
    have hL5 := p4 _ _ _ hL (by decide)
    have s0 := p2 _ _ r0
    have s1 := p2 _ _ r1
    have s2 := p2 _ _ r2
    refine wpAnyH_ready (rs := [29]) (by kernel_rfl) (by simp) ?_
    refine AllReadyH.cons rfl (fun K hK => ?_) AllReadyH.nil
    go_simp
    rw [← e5]
    refine hK.out _ _ ⟨hL5.cell 0, hL5.cell 1, hL5.cell 2, hL5.cell 3, hL5.cell 4, hL5.cell 5, hL5.cell 6, hL5.cell 7⟩ (fun hHeld => ?_)
    clear hK K hHeld
    try simp only [Act.put]
    refine wpAnyH_done (by kernel_rfl) ?_ _
    refine NoPanic.normal ?_
    clear p2 p4 e5 u0 u1 u2 u3 uf0 uf1 uf2 uf3 k7 q0 q1 q2 n0 n1 n2 r0 r1 r2 hT hA hL hBel hA0 hL0 hB0 ha hb hc hd ha' hb' hc' hd' hdD
    have ⟨⟨iA, iB, iC, iD⟩, _, _, _, _⟩ := hs
    have ⟨⟨iA', iB', iC', iD'⟩, _, _, _, _⟩ := hs'
    have hS1 := fun w h => Step_all lr mu wd fr nest _ A B C D w (hv.below h) (by omega) hlr hmu hwd iA iB iD
    have hS2 := fun w h => Step_all lr mu wd fr nest _ A' B' C' D' w (hv'.below h) (by omega) hlr hmu hwd iA' iB' iD'
    have hS3 := fun v w h => Step_all lr mu wd fr nest v (A ++ A') (B ++ B') [] (D ++ D') w h (by rw [List.length_append]; omega) hlr hmu hwd (iA.app iA') (iB.app iB') (iD.app iD')
    have HRUN := Lib.hid (apart_runs lr mu wd nest fr A B D A' B' D' _ _ _ _ _ _ _ _ _ rfl rfl rfl rfl rfl rfl rfl rfl rfl)
    have t1 := stW_le lr mu wd nest fr A B D
    have t2 := stM_le lr mu wd nest fr A B D
    have t3 := stW_le lr mu wd nest fr A' B' D'
    have t4 := stM_le lr mu wd nest fr A' B' D'
    generalize stWs lr mu wd nest fr A B D = xs1 at *
    generalize stMs lr mu wd nest fr A B D = ys1 at *
    generalize stWs lr mu wd nest fr A' B' D' = xs2 at *
    generalize stMs lr mu wd nest fr A' B' D' = ys2 at *
    generalize stWs lr mu wd nest fr (A ++ A') (B ++ B') (D ++ D') = xs3 at *
    generalize stMs lr mu wd nest fr (A ++ A') (B ++ B') (D ++ D') = ys3 at *
    generalize stErr lr mu wd nest fr A B D = E1 at *
    generalize stErr lr mu wd nest fr A' B' D' = E2 at *
    generalize stErr lr mu wd nest fr (A ++ A') (B ++ B') (D ++ D') = E3 at *
    have LEN := Lib.hid (show xs1.length ≤ 18 ∧ ys1.length ≤ 18 ∧ xs2.length ≤ 18 ∧ ys2.length ≤ 18 by omega)
    have HVV := Lib.hid (And.intro hv hv')
    clear t1 t2 t3 t4 hs hs' h1 h2 hlr hmu hwd iA iB iC iD iA' iB' iC' iD' hF1 hF2 hv hv' hgw
    have hAl := fun w => alive17_any w
    have hB := hB5
    have hA := hA5
    have hL := hL5
    clear hA5 hL5 hB5
    obtain ⟨c1_hA_0, c1_hA_1, c1_hA_2, c1_hA_3⟩ := hA.cells4
    obtain ⟨c1_hL_0, c1_hL_1, c1_hL_2, c1_hL_3, c1_hL_4, c1_hL_5, c1_hL_6, c1_hL_7⟩ := hL.cells8
    obtain ⟨c1_h7_0, c1_h7_1, c1_h7_2, c1_h7_3⟩ := h7.cells4
    go_wp2_with fail
    refine (hS1 _ hB).mono ?_
    rintro e w1 ⟨v1, rfl, ⟨x11, x12, x13, x14, rfl, i11, i12, i13, i14⟩, b1⟩
    replace hA := hA.below b1 hA.lt
    replace hL := hL.below b1 hL.lt
    replace h7 := h7.below b1 h7.lt
    replace s0 := s0.below b1
    replace s1 := s1.below b1
    replace s2 := s2.below b1
    replace hB := hB.trans (b1.mono hB.size)
    clear c1_hA_0 c1_hA_1 c1_hA_2 c1_hA_3 c1_hL_0 c1_hL_1 c1_hL_2 c1_hL_3 c1_hL_4 c1_hL_5 c1_hL_6 c1_hL_7 c1_h7_0 c1_h7_1 c1_h7_2 c1_h7_3
    obtain ⟨c2_hA_0, c2_hA_1, c2_hA_2, c2_hA_3⟩ := hA.cells4
    obtain ⟨c2_hL_0, c2_hL_1, c2_hL_2, c2_hL_3, c2_hL_4, c2_hL_5, c2_hL_6, c2_hL_7⟩ := hL.cells8
    obtain ⟨c2_h7_0, c2_h7_1, c2_h7_2, c2_h7_3⟩ := h7.cells4
    obtain ⟨A11, C11, rfl⟩ := frmA i11
    obtain ⟨A12, C12, rfl⟩ := frmA i12
    obtain ⟨A13, C13, rfl⟩ := frmA i13
    obtain ⟨A14, C14, rfl⟩ := frmA i14
    obtain ⟨V1, eV, hX8, bV1⟩ := box1 w1 26 #[.slice A11 xs1.length C11, .slice A12 ys1.length C12, .slice A13 0 C13, .slice A14 0 C14]
    obtain ⟨X1, eX⟩ : ∃ X, X = w1.heap.size := ⟨_, rfl⟩
    rw [← eX] at hX8
    have EV1 := Lib.hid (And.intro eV eX)
    clear eV eX
    go_upto_region 5 with fail
    rw [← EV1.out.1, ← EV1.out.2]
    replace hA := hA.below bV1 hA.lt
    replace hL := hL.below bV1 hL.lt
    replace h7 := h7.below bV1 h7.lt
    replace s0 := s0.below bV1
    replace s1 := s1.below bV1
    replace s2 := s2.below bV1
    replace i11 := i11.below bV1
    replace i12 := i12.below bV1
    replace hB := hB.trans (bV1.mono hB.size)
    clear c2_hA_0 c2_hA_1 c2_hA_2 c2_hA_3 c2_hL_0 c2_hL_1 c2_hL_2 c2_hL_3 c2_hL_4 c2_hL_5 c2_hL_6 c2_hL_7 c2_h7_0 c2_h7_1 c2_h7_2 c2_h7_3
    obtain ⟨c3_hA_0, c3_hA_1, c3_hA_2, c3_hA_3⟩ := hA.cells4
    obtain ⟨c3_hL_0, c3_hL_1, c3_hL_2, c3_hL_3, c3_hL_4, c3_hL_5, c3_hL_6, c3_hL_7⟩ := hL.cells8
    obtain ⟨c3_h7_0, c3_h7_1, c3_h7_2, c3_h7_3⟩ := h7.cells4
    clear c3_hA_0 c3_hA_1 c3_hA_2 c3_hA_3 c3_hL_0 c3_hL_1 c3_hL_2 c3_hL_3 c3_hL_4 c3_hL_5 c3_hL_6 c3_hL_7 c3_h7_0 c3_h7_1 c3_h7_2 c3_h7_3
    obtain ⟨c4_hA_0, c4_hA_1, c4_hA_2, c4_hA_3⟩ := hA.cells4
    obtain ⟨c4_hL_0, c4_hL_1, c4_hL_2, c4_hL_3, c4_hL_4, c4_hL_5, c4_hL_6, c4_hL_7⟩ := hL.cells8
    obtain ⟨c4_h7_0, c4_h7_1, c4_h7_2, c4_h7_3⟩ := h7.cells4
    obtain ⟨c4_hX8_0, c4_hX8_1, c4_hX8_2, c4_hX8_3⟩ := hX8.cells4
    go_wp2_with fail
    refine (hS2 _ hB).mono ?_
    rintro e w2 ⟨v2, rfl, ⟨x21, x22, x23, x24, rfl, i21, i22, i23, i24⟩, b2⟩
    replace hA := hA.below b2 hA.lt
    replace hL := hL.below b2 hL.lt
    replace h7 := h7.below b2 h7.lt
    replace s0 := s0.below b2
    replace s1 := s1.below b2
    replace s2 := s2.below b2
    replace i11 := i11.below b2
    replace i12 := i12.below b2
    replace hX8 := hX8.below b2 hX8.lt
    replace hB := hB.trans (b2.mono hB.size)
    clear c4_hA_0 c4_hA_1 c4_hA_2 c4_hA_3 c4_hL_0 c4_hL_1 c4_hL_2 c4_hL_3 c4_hL_4 c4_hL_5 c4_hL_6 c4_hL_7 c4_h7_0 c4_h7_1 c4_h7_2 c4_h7_3 c4_hX8_0 c4_hX8_1 c4_hX8_2 c4_hX8_3
    obtain ⟨c5_hA_0, c5_hA_1, c5_hA_2, c5_hA_3⟩ := hA.cells4
    obtain ⟨c5_hL_0, c5_hL_1, c5_hL_2, c5_hL_3, c5_hL_4, c5_hL_5, c5_hL_6, c5_hL_7⟩ := hL.cells8
    obtain ⟨c5_h7_0, c5_h7_1, c5_h7_2, c5_h7_3⟩ := h7.cells4
    obtain ⟨c5_hX8_0, c5_hX8_1, c5_hX8_2, c5_hX8_3⟩ := hX8.cells4
    obtain ⟨A21, C21, rfl⟩ := frmA i21
    obtain ⟨A22, C22, rfl⟩ := frmA i22
    obtain ⟨A23, C23, rfl⟩ := frmA i23
    obtain ⟨A24, C24, rfl⟩ := frmA i24
    obtain ⟨V2, eV, hX10, bV2⟩ := box1 w2 26 #[.slice A21 xs2.length C21, .slice A22 ys2.length C22, .slice A23 0 C23, .slice A24 0 C24]
    obtain ⟨X2, eX⟩ : ∃ X, X = w2.heap.size := ⟨_, rfl⟩
    rw [← eX] at hX10
    have EV2 := Lib.hid (And.intro eV eX)
    clear eV eX
    go_upto_region 6 with fail
    rw [← EV2.out.1, ← EV2.out.2]
    replace hA := hA.below bV2 hA.lt
    replace hL := hL.below bV2 hL.lt
    replace h7 := h7.below bV2 h7.lt
    replace s0 := s0.below bV2
    replace s1 := s1.below bV2
    replace s2 := s2.below bV2
    replace i11 := i11.below bV2
    replace i12 := i12.below bV2
    replace hX8 := hX8.below bV2 hX8.lt
    replace i21 := i21.below bV2
    replace i22 := i22.below bV2
    replace hB := hB.trans (bV2.mono hB.size)
    clear c5_hA_0 c5_hA_1 c5_hA_2 c5_hA_3 c5_hL_0 c5_hL_1 c5_hL_2 c5_hL_3 c5_hL_4 c5_hL_5 c5_hL_6 c5_hL_7 c5_h7_0 c5_h7_1 c5_h7_2 c5_h7_3 c5_hX8_0 c5_hX8_1 c5_hX8_2 c5_hX8_3
    obtain ⟨c6_hA_0, c6_hA_1, c6_hA_2, c6_hA_3⟩ := hA.cells4
    obtain ⟨c6_hL_0, c6_hL_1, c6_hL_2, c6_hL_3, c6_hL_4, c6_hL_5, c6_hL_6, c6_hL_7⟩ := hL.cells8
    obtain ⟨c6_h7_0, c6_h7_1, c6_h7_2, c6_h7_3⟩ := h7.cells4
    obtain ⟨c6_hX8_0, c6_hX8_1, c6_hX8_2, c6_hX8_3⟩ := hX8.cells4
    clear c6_hA_0 c6_hA_1 c6_hA_2 c6_hA_3 c6_hL_0 c6_hL_1 c6_hL_2 c6_hL_3 c6_hL_4 c6_hL_5 c6_hL_6 c6_hL_7 c6_h7_0 c6_h7_1 c6_h7_2 c6_h7_3 c6_hX8_0 c6_hX8_1 c6_hX8_2 c6_hX8_3
    obtain ⟨c7_hA_0, c7_hA_1, c7_hA_2, c7_hA_3⟩ := hA.cells4
    obtain ⟨c7_hL_0, c7_hL_1, c7_hL_2, c7_hL_3, c7_hL_4, c7_hL_5, c7_hL_6, c7_hL_7⟩ := hL.cells8
    obtain ⟨c7_h7_0, c7_h7_1, c7_h7_2, c7_h7_3⟩ := h7.cells4
    obtain ⟨c7_hX8_0, c7_hX8_1, c7_hX8_2, c7_hX8_3⟩ := hX8.cells4
    obtain ⟨c7_hX10_0, c7_hX10_1, c7_hX10_2, c7_hX10_3⟩ := hX10.cells4
    go_wp2_with fail
    refine (hS3 _ _ ⟨_, _, _, _, rfl, s0, s1, IsI.nil _, s2⟩).mono ?_
    rintro e w3 ⟨v3, rfl, ⟨x31, x32, x33, x34, rfl, i31, i32, i33, i34⟩, b3⟩
    replace hA := hA.below b3 hA.lt
    replace hL := hL.below b3 hL.lt
    replace h7 := h7.below b3 h7.lt
    replace s0 := s0.below b3
    replace s1 := s1.below b3
    replace s2 := s2.below b3
    replace i11 := i11.below b3
    replace i12 := i12.below b3
    replace hX8 := hX8.below b3 hX8.lt
    replace i21 := i21.below b3
    replace i22 := i22.below b3
    replace hX10 := hX10.below b3 hX10.lt
    replace hB := hB.trans (b3.mono hB.size)
    clear c7_hA_0 c7_hA_1 c7_hA_2 c7_hA_3 c7_hL_0 c7_hL_1 c7_hL_2 c7_hL_3 c7_hL_4 c7_hL_5 c7_hL_6 c7_hL_7 c7_h7_0 c7_h7_1 c7_h7_2 c7_h7_3 c7_hX8_0 c7_hX8_1 c7_hX8_2 c7_hX8_3 c7_hX10_0 c7_hX10_1 c7_hX10_2 c7_hX10_3
    obtain ⟨c8_hA_0, c8_hA_1, c8_hA_2, c8_hA_3⟩ := hA.cells4
    obtain ⟨c8_hL_0, c8_hL_1, c8_hL_2, c8_hL_3, c8_hL_4, c8_hL_5, c8_hL_6, c8_hL_7⟩ := hL.cells8
    obtain ⟨c8_h7_0, c8_h7_1, c8_h7_2, c8_h7_3⟩ := h7.cells4
    obtain ⟨c8_hX8_0, c8_hX8_1, c8_hX8_2, c8_hX8_3⟩ := hX8.cells4
    obtain ⟨c8_hX10_0, c8_hX10_1, c8_hX10_2, c8_hX10_3⟩ := hX10.cells4
    obtain ⟨A31, C31, rfl⟩ := frmA i31
    obtain ⟨A32, C32, rfl⟩ := frmA i32
    obtain ⟨A33, C33, rfl⟩ := frmA i33
    obtain ⟨A34, C34, rfl⟩ := frmA i34
    obtain ⟨V3, eV, hX12, bV3⟩ := box1 w3 26 #[.slice A31 xs3.length C31, .slice A32 ys3.length C32, .slice A33 0 C33, .slice A34 0 C34]
    obtain ⟨X3, eX⟩ : ∃ X, X = w3.heap.size := ⟨_, rfl⟩
    rw [← eX] at hX12
    have EV3 := Lib.hid (And.intro eV eX)
    clear eV eX
    go_upto_region 7 with fail
    rw [← EV3.out.1, ← EV3.out.2]
    replace hA := hA.below bV3 hA.lt
    replace hL := hL.below bV3 hL.lt
    replace h7 := h7.below bV3 h7.lt
    replace s0 := s0.below bV3
    replace s1 := s1.below bV3
    replace s2 := s2.below bV3
    replace i11 := i11.below bV3
    replace i12 := i12.below bV3
    replace hX8 := hX8.below bV3 hX8.lt
    replace i21 := i21.below bV3
    replace i22 := i22.below bV3
    replace hX10 := hX10.below bV3 hX10.lt
    replace i31 := i31.below bV3
    replace i32 := i32.below bV3
    replace hB := hB.trans (bV3.mono hB.size)
    clear c8_hA_0 c8_hA_1 c8_hA_2 c8_hA_3 c8_hL_0 c8_hL_1 c8_hL_2 c8_hL_3 c8_hL_4 c8_hL_5 c8_hL_6 c8_hL_7 c8_h7_0 c8_h7_1 c8_h7_2 c8_h7_3 c8_hX8_0 c8_hX8_1 c8_hX8_2 c8_hX8_3 c8_hX10_0 c8_hX10_1 c8_hX10_2 c8_hX10_3
    obtain ⟨c9_hA_0, c9_hA_1, c9_hA_2, c9_hA_3⟩ := hA.cells4
    obtain ⟨c9_hL_0, c9_hL_1, c9_hL_2, c9_hL_3, c9_hL_4, c9_hL_5, c9_hL_6, c9_hL_7⟩ := hL.cells8
    obtain ⟨c9_h7_0, c9_h7_1, c9_h7_2, c9_h7_3⟩ := h7.cells4
    obtain ⟨c9_hX8_0, c9_hX8_1, c9_hX8_2, c9_hX8_3⟩ := hX8.cells4
    obtain ⟨c9_hX10_0, c9_hX10_1, c9_hX10_2, c9_hX10_3⟩ := hX10.cells4
    clear c9_hA_0 c9_hA_1 c9_hA_2 c9_hA_3 c9_hL_0 c9_hL_1 c9_hL_2 c9_hL_3 c9_hL_4 c9_hL_5 c9_hL_6 c9_hL_7 c9_h7_0 c9_h7_1 c9_h7_2 c9_h7_3 c9_hX8_0 c9_hX8_1 c9_hX8_2 c9_hX8_3 c9_hX10_0 c9_hX10_1 c9_hX10_2 c9_hX10_3
    obtain ⟨c10_hA_0, c10_hA_1, c10_hA_2, c10_hA_3⟩ := hA.cells4
    obtain ⟨c10_hL_0, c10_hL_1, c10_hL_2, c10_hL_3, c10_hL_4, c10_hL_5, c10_hL_6, c10_hL_7⟩ := hL.cells8
    obtain ⟨c10_h7_0, c10_h7_1, c10_h7_2, c10_h7_3⟩ := h7.cells4
    obtain ⟨c10_hX8_0, c10_hX8_1, c10_hX8_2, c10_hX8_3⟩ := hX8.cells4
    obtain ⟨c10_hX10_0, c10_hX10_1, c10_hX10_2, c10_hX10_3⟩ := hX10.cells4
    obtain ⟨c10_hX12_0, c10_hX12_1, c10_hX12_2, c10_hX12_3⟩ := hX12.cells4
    clear hS1 hS2 hS3
    rcases HRUN.out with ⟨rfl, rfl, rfl⟩ | rfl | ⟨rfl, rfl⟩ | ⟨rfl, rfl⟩ | ⟨rfl, rfl, rfl⟩ | ⟨rfl, rfl, rfl⟩ | ⟨rfl, rfl, rfl⟩ | ⟨rfl, rfl, rfl, hzz, huu⟩
    · go_wp2_with fail
      refine (hAl _).mono ?_
      rintro e w4 ⟨rfl, b4⟩
      replace i11 := i11.below b4
      replace i12 := i12.below b4
      replace hX8 := hX8.below b4 hX8.lt
      replace i21 := i21.below b4
      replace i22 := i22.below b4
      replace hX10 := hX10.below b4 hX10.lt
      replace i31 := i31.below b4
      replace i32 := i32.below b4
      replace hX12 := hX12.below b4 hX12.lt
      replace hB := hB.trans (b4.mono hB.size)
      clear c10_hA_0 c10_hA_1 c10_hA_2 c10_hA_3 c10_hL_0 c10_hL_1 c10_hL_2 c10_hL_3 c10_hL_4 c10_hL_5 c10_hL_6 c10_hL_7 c10_h7_0 c10_h7_1 c10_h7_2 c10_h7_3 c10_hX8_0 c10_hX8_1 c10_hX8_2 c10_hX8_3 c10_hX10_0 c10_hX10_1 c10_hX10_2 c10_hX10_3 c10_hX12_0 c10_hX12_1 c10_hX12_2 c10_hX12_3
      obtain ⟨c11_hX8_0, c11_hX8_1, c11_hX8_2, c11_hX8_3⟩ := hX8.cells4
      obtain ⟨c11_hX10_0, c11_hX10_1, c11_hX10_2, c11_hX10_3⟩ := hX10.cells4
      obtain ⟨c11_hX12_0, c11_hX12_1, c11_hX12_2, c11_hX12_3⟩ := hX12.cells4
      go_wp2
      go_ret
      exact ⟨rfl, hB⟩
    · go_wp2_with fail
      refine (hAl _).mono ?_
      rintro e w4 ⟨rfl, b4⟩
      replace i11 := i11.below b4
      replace i12 := i12.below b4
      replace hX8 := hX8.below b4 hX8.lt
      replace i21 := i21.below b4
      replace i22 := i22.below b4
      replace hX10 := hX10.below b4 hX10.lt
      replace i31 := i31.below b4
      replace i32 := i32.below b4
      replace hX12 := hX12.below b4 hX12.lt
      replace hB := hB.trans (b4.mono hB.size)
      clear c10_hA_0 c10_hA_1 c10_hA_2 c10_hA_3 c10_hL_0 c10_hL_1 c10_hL_2 c10_hL_3 c10_hL_4 c10_hL_5 c10_hL_6 c10_hL_7 c10_h7_0 c10_h7_1 c10_h7_2 c10_h7_3 c10_hX8_0 c10_hX8_1 c10_hX8_2 c10_hX8_3 c10_hX10_0 c10_hX10_1 c10_hX10_2 c10_hX10_3 c10_hX12_0 c10_hX12_1 c10_hX12_2 c10_hX12_3
      obtain ⟨c11_hX8_0, c11_hX8_1, c11_hX8_2, c11_hX8_3⟩ := hX8.cells4
      obtain ⟨c11_hX10_0, c11_hX10_1, c11_hX10_2, c11_hX10_3⟩ := hX10.cells4
      obtain ⟨c11_hX12_0, c11_hX12_1, c11_hX12_2, c11_hX12_3⟩ := hX12.cells4
      go_wp2
      go_ret
      exact ⟨rfl, hB⟩
    · go_wp2_with fail
      refine (hAl _).mono ?_
      rintro e w4 ⟨rfl, b4⟩
      replace i11 := i11.below b4
      replace i12 := i12.below b4
      replace hX8 := hX8.below b4 hX8.lt
      replace i21 := i21.below b4
      replace i22 := i22.below b4
      replace hX10 := hX10.below b4 hX10.lt
      replace i31 := i31.below b4
      replace i32 := i32.below b4
      replace hX12 := hX12.below b4 hX12.lt
      replace hB := hB.trans (b4.mono hB.size)
      clear c10_hA_0 c10_hA_1 c10_hA_2 c10_hA_3 c10_hL_0 c10_hL_1 c10_hL_2 c10_hL_3 c10_hL_4 c10_hL_5 c10_hL_6 c10_hL_7 c10_h7_0 c10_h7_1 c10_h7_2 c10_h7_3 c10_hX8_0 c10_hX8_1 c10_hX8_2 c10_hX8_3 c10_hX10_0 c10_hX10_1 c10_hX10_2 c10_hX10_3 c10_hX12_0 c10_hX12_1 c10_hX12_2 c10_hX12_3
      obtain ⟨c11_hX8_0, c11_hX8_1, c11_hX8_2, c11_hX8_3⟩ := hX8.cells4
      obtain ⟨c11_hX10_0, c11_hX10_1, c11_hX10_2, c11_hX10_3⟩ := hX10.cells4
      obtain ⟨c11_hX12_0, c11_hX12_1, c11_hX12_2, c11_hX12_3⟩ := hX12.cells4
      go_wp2
      go_ret
      exact ⟨rfl, hB⟩
    · go_wp2_with fail
      refine (hAl _).mono ?_
      rintro e w4 ⟨rfl, b4⟩
      replace i11 := i11.below b4
      replace i12 := i12.below b4
      replace hX8 := hX8.below b4 hX8.lt
      replace i21 := i21.below b4
      replace i22 := i22.below b4
      replace hX10 := hX10.below b4 hX10.lt
      replace i31 := i31.below b4
      replace i32 := i32.below b4
      replace hX12 := hX12.below b4 hX12.lt
      replace hB := hB.trans (b4.mono hB.size)
      clear c10_hA_0 c10_hA_1 c10_hA_2 c10_hA_3 c10_hL_0 c10_hL_1 c10_hL_2 c10_hL_3 c10_hL_4 c10_hL_5 c10_hL_6 c10_hL_7 c10_h7_0 c10_h7_1 c10_h7_2 c10_h7_3 c10_hX8_0 c10_hX8_1 c10_hX8_2 c10_hX8_3 c10_hX10_0 c10_hX10_1 c10_hX10_2 c10_hX10_3 c10_hX12_0 c10_hX12_1 c10_hX12_2 c10_hX12_3
      obtain ⟨c11_hX8_0, c11_hX8_1, c11_hX8_2, c11_hX8_3⟩ := hX8.cells4
      obtain ⟨c11_hX10_0, c11_hX10_1, c11_hX10_2, c11_hX10_3⟩ := hX10.cells4
      obtain ⟨c11_hX12_0, c11_hX12_1, c11_hX12_2, c11_hX12_3⟩ := hX12.cells4
      go_wp2
      go_ret
      exact ⟨rfl, hB⟩
    · go_wp2_with fail
      refine (hAl _).mono ?_
      rintro e w4 ⟨rfl, b4⟩
      replace i11 := i11.below b4
      replace i12 := i12.below b4
      replace hX8 := hX8.below b4 hX8.lt
      replace i21 := i21.below b4
      replace i22 := i22.below b4
      replace hX10 := hX10.below b4 hX10.lt
      replace i31 := i31.below b4
      replace i32 := i32.below b4
      replace hX12 := hX12.below b4 hX12.lt
      replace hB := hB.trans (b4.mono hB.size)
      clear c10_hA_0 c10_hA_1 c10_hA_2 c10_hA_3 c10_hL_0 c10_hL_1 c10_hL_2 c10_hL_3 c10_hL_4 c10_hL_5 c10_hL_6 c10_hL_7 c10_h7_0 c10_h7_1 c10_h7_2 c10_h7_3 c10_hX8_0 c10_hX8_1 c10_hX8_2 c10_hX8_3 c10_hX10_0 c10_hX10_1 c10_hX10_2 c10_hX10_3 c10_hX12_0 c10_hX12_1 c10_hX12_2 c10_hX12_3
      obtain ⟨c11_hX8_0, c11_hX8_1, c11_hX8_2, c11_hX8_3⟩ := hX8.cells4
      obtain ⟨c11_hX10_0, c11_hX10_1, c11_hX10_2, c11_hX10_3⟩ := hX10.cells4
      obtain ⟨c11_hX12_0, c11_hX12_1, c11_hX12_2, c11_hX12_3⟩ := hX12.cells4
      go_wp2
      go_ret
      exact ⟨rfl, hB⟩
    · go_wp2_with fail
      refine (hAl _).mono ?_
      rintro e w4 ⟨rfl, b4⟩
      replace i11 := i11.below b4
      replace i12 := i12.below b4
      replace hX8 := hX8.below b4 hX8.lt
      replace i21 := i21.below b4
      replace i22 := i22.below b4
      replace hX10 := hX10.below b4 hX10.lt
      replace i31 := i31.below b4
      replace i32 := i32.below b4
      replace hX12 := hX12.below b4 hX12.lt
      replace hB := hB.trans (b4.mono hB.size)
      clear c10_hA_0 c10_hA_1 c10_hA_2 c10_hA_3 c10_hL_0 c10_hL_1 c10_hL_2 c10_hL_3 c10_hL_4 c10_hL_5 c10_hL_6 c10_hL_7 c10_h7_0 c10_h7_1 c10_h7_2 c10_h7_3 c10_hX8_0 c10_hX8_1 c10_hX8_2 c10_hX8_3 c10_hX10_0 c10_hX10_1 c10_hX10_2 c10_hX10_3 c10_hX12_0 c10_hX12_1 c10_hX12_2 c10_hX12_3
      obtain ⟨c11_hX8_0, c11_hX8_1, c11_hX8_2, c11_hX8_3⟩ := hX8.cells4
      obtain ⟨c11_hX10_0, c11_hX10_1, c11_hX10_2, c11_hX10_3⟩ := hX10.cells4
      obtain ⟨c11_hX12_0, c11_hX12_1, c11_hX12_2, c11_hX12_3⟩ := hX12.cells4
      go_wp2
      go_ret
      exact ⟨rfl, hB⟩
    · go_wp2_with fail
      refine (hAl _).mono ?_
      rintro e w4 ⟨rfl, b4⟩
      replace i11 := i11.below b4
      replace i12 := i12.below b4
      replace hX8 := hX8.below b4 hX8.lt
      replace i21 := i21.below b4
      replace i22 := i22.below b4
      replace hX10 := hX10.below b4 hX10.lt
      replace i31 := i31.below b4
      replace i32 := i32.below b4
      replace hX12 := hX12.below b4 hX12.lt
      replace hB := hB.trans (b4.mono hB.size)
      clear c10_hA_0 c10_hA_1 c10_hA_2 c10_hA_3 c10_hL_0 c10_hL_1 c10_hL_2 c10_hL_3 c10_hL_4 c10_hL_5 c10_hL_6 c10_hL_7 c10_h7_0 c10_h7_1 c10_h7_2 c10_h7_3 c10_hX8_0 c10_hX8_1 c10_hX8_2 c10_hX8_3 c10_hX10_0 c10_hX10_1 c10_hX10_2 c10_hX10_3 c10_hX12_0 c10_hX12_1 c10_hX12_2 c10_hX12_3
      obtain ⟨c11_hX8_0, c11_hX8_1, c11_hX8_2, c11_hX8_3⟩ := hX8.cells4
      obtain ⟨c11_hX10_0, c11_hX10_1, c11_hX10_2, c11_hX10_3⟩ := hX10.cells4
      obtain ⟨c11_hX12_0, c11_hX12_1, c11_hX12_2, c11_hX12_3⟩ := hX12.cells4
      go_wp2
      go_ret
      exact ⟨rfl, hB⟩
    · have HZ := Lib.hid (And.intro hzz huu)
      clear hzz huu
      have ⟨n1, n2, n3, n4⟩ := LEN.out
      go_upto_region 11 with fail
      refine wp_region_noPanic ?_
      refine wp_region_held_drew (S := fun w' => w'.cell? ⟨X1, 0, none⟩ = some (.slice A11 xs1.length C11) ∧ w'.cell? ⟨X1, 1, none⟩ = some (.slice A12 ys1.length C12) ∧ w'.cell? ⟨X2, 0, none⟩ = some (.slice A21 xs2.length C21) ∧ w'.cell? ⟨X2, 1, none⟩ = some (.slice A22 ys2.length C22) ∧ w'.cell? ⟨X3, 0, none⟩ = some (.slice A31 xs3.length C31) ∧ w'.cell? ⟨X3, 1, none⟩ = some (.slice A32 ys3.length C32)) (by kernel_rfl) ?_ (fun hHeld => ?_)
      · exact ⟨(hX8.below (bdrew _) hX8.lt).cell 0, (hX8.below (bdrew _) hX8.lt).cell 1, (hX10.below (bdrew _) hX10.lt).cell 0, (hX10.below (bdrew _) hX10.lt).cell 1, (hX12.below (bdrew _) hX12.lt).cell 0, (hX12.below (bdrew _) hX12.lt).cell 1⟩
      refine wpAnyH_ready (rs := [0]) (by kernel_rfl) (by simp) ?_
      refine AllReadyH.cons rfl (fun K hK => ?_) AllReadyH.nil
      go_simp
      refine (hAl _).mono ?_
      rintro e u1 ⟨rfl, d1⟩
      have D1 : Below V3.heap.size V3 u1 := (bdrew _).trans (d1.mono (bdrew _).size)
      go_wp2_with fail
      refine hK.out _ _ ?_ (fun hHeld => ?_)
      · exact ⟨(hX8.below D1 hX8.lt).cell 0, (hX8.below D1 hX8.lt).cell 1, (hX10.below D1 hX10.lt).cell 0, (hX10.below D1 hX10.lt).cell 1, (hX12.below D1 hX12.lt).cell 0, (hX12.below D1 hX12.lt).cell 1⟩
      clear hK K
      try simp only [Act.put, List.getElem_toArray, List.getElem_cons_succ, List.getElem_cons_zero, List.setIfInBounds_toArray, List.set_cons_zero, List.set_cons_succ]
      refine wpAnyH_take (i := 1) (v := ?rv1) rfl (by kernel_rfl) (by kernel_rfl) (by kernel_rfl) (fun _ _ _ h => h) (Or.inl ⟨by kernel_rfl, ?rhy1⟩) (by assumption) ?rrest1
      case rhy1 => (intro w hSw; (try dsimp only at hSw); go_simp; try (with_reducible rfl))
      try simp only [Act.put, List.getElem_toArray, List.getElem_cons_succ, List.getElem_cons_zero, List.setIfInBounds_toArray, List.set_cons_zero, List.set_cons_succ]
      refine wpAnyH_take (i := 2) (v := ?rv2) rfl (by kernel_rfl) (by kernel_rfl) (by kernel_rfl) (fun _ _ _ h => h) (Or.inl ⟨by kernel_rfl, ?rhy2⟩) (by assumption) ?rrest2
      case rhy2 => (intro w hSw; (try dsimp only at hSw); go_simp; try (with_reducible rfl))
      try simp only [Act.put, List.getElem_toArray, List.getElem_cons_succ, List.getElem_cons_zero, List.setIfInBounds_toArray, List.set_cons_zero, List.set_cons_succ]
      refine wpAnyH_take (i := 3) (v := ?rv3) rfl (by kernel_rfl) (by kernel_rfl) (by kernel_rfl) (fun _ _ _ h => h) (Or.inl ⟨by kernel_rfl, ?rhy3⟩) (by assumption) ?rrest3
      case rhy3 => (intro w hSw; (try dsimp only at hSw); go_simp; try (with_reducible rfl))
      try simp only [Act.put, List.getElem_toArray, List.getElem_cons_succ, List.getElem_cons_zero, List.setIfInBounds_toArray, List.set_cons_zero, List.set_cons_succ]
      refine wpAnyH_take (i := 4) (v := ?rv4) rfl (by kernel_rfl) (by kernel_rfl) (by kernel_rfl) (fun _ _ _ h => h) (Or.inl ⟨by kernel_rfl, ?rhy4⟩) (by assumption) ?rrest4
      case rhy4 => (intro w hSw; (try dsimp only at hSw); go_simp; try (with_reducible rfl))
      try simp only [Act.put, List.getElem_toArray, List.getElem_cons_succ, List.getElem_cons_zero, List.setIfInBounds_toArray, List.set_cons_zero, List.set_cons_succ]
      refine wpAnyH_take (i := 5) (v := ?rv5) rfl (by kernel_rfl) (by kernel_rfl) (by kernel_rfl) (fun _ _ _ h => h) (Or.inl ⟨by kernel_rfl, ?rhy5⟩) (by assumption) ?rrest5
      case rhy5 => (intro w hSw; (try dsimp only at hSw); go_simp; try (with_reducible rfl))
      try simp only [Act.put, List.getElem_toArray, List.getElem_cons_succ, List.getElem_cons_zero, List.setIfInBounds_toArray, List.set_cons_zero, List.set_cons_succ]
      refine wpAnyH_take (i := 6) (v := ?rv6) rfl (by kernel_rfl) (by kernel_rfl) (by kernel_rfl) (fun _ _ _ h => h) (Or.inl ⟨by kernel_rfl, ?rhy6⟩) (by assumption) ?rrest6
      case rhy6 => (intro w hSw; (try dsimp only at hSw); go_simp; try (with_reducible rfl))
      try simp only [Act.put, List.getElem_toArray, List.getElem_cons_succ, List.getElem_cons_zero, List.setIfInBounds_toArray, List.set_cons_zero, List.set_cons_succ]
      refine wpAnyH_take (i := 7) (v := ?rv7) rfl (by kernel_rfl) (by kernel_rfl) (by kernel_rfl) (fun _ _ _ h => h) (Or.inl ⟨by kernel_rfl, ?rhy7⟩) (by assumption) ?rrest7
      case rhy7 => (intro w hSw; (try dsimp only at hSw); go_simp; try (with_reducible rfl))
      try simp only [Act.put, List.getElem_toArray, List.getElem_cons_succ, List.getElem_cons_zero, List.setIfInBounds_toArray, List.set_cons_zero, List.set_cons_succ]
      refine wpAnyH_take (i := 9) (v := ?rv9) rfl (by kernel_rfl) (by kernel_rfl) (by kernel_rfl) (fun _ _ _ h => h) (Or.inl ⟨by kernel_rfl, ?rhy9⟩) (by assumption) ?rrest9
      case rhy9 => (intro w hSw; (try dsimp only at hSw); go_simp; try (with_reducible rfl))
      try simp only [Act.put, List.getElem_toArray, List.getElem_cons_succ, List.getElem_cons_zero, List.setIfInBounds_toArray, List.set_cons_zero, List.set_cons_succ]
      refine wpAnyH_take (i := 10) (v := ?rv10) rfl (by kernel_rfl) (by kernel_rfl) (by kernel_rfl) (fun _ _ _ h => h) (Or.inl ⟨by kernel_rfl, ?rhy10⟩) (by assumption) ?rrest10
      case rhy10 => (intro w hSw; (try dsimp only at hSw); go_simp; try (with_reducible rfl))
      try simp only [Act.put, List.getElem_toArray, List.getElem_cons_succ, List.getElem_cons_zero, List.setIfInBounds_toArray, List.set_cons_zero, List.set_cons_succ]
      refine wpAnyH_take (i := 12) (v := ?rv12) rfl (by kernel_rfl) (by kernel_rfl) (by kernel_rfl) (fun _ _ _ h => h) (Or.inl ⟨by kernel_rfl, ?rhy12⟩) (by assumption) ?rrest12
      case rhy12 => (intro w hSw; (try dsimp only at hSw); go_simp; try (with_reducible rfl))
      try simp only [Act.put, List.getElem_toArray, List.getElem_cons_succ, List.getElem_cons_zero, List.setIfInBounds_toArray, List.set_cons_zero, List.set_cons_succ]
      refine wpAnyH_take (i := 13) (v := ?rv13) rfl (by kernel_rfl) (by kernel_rfl) (by kernel_rfl) (fun _ _ _ h => h) (Or.inl ⟨by kernel_rfl, ?rhy13⟩) (by assumption) ?rrest13
      case rhy13 => (intro w hSw; (try dsimp only at hSw); go_simp; try (with_reducible rfl))
      try simp only [Act.put, List.getElem_toArray, List.getElem_cons_succ, List.getElem_cons_zero, List.setIfInBounds_toArray, List.set_cons_zero, List.set_cons_succ]
      refine wpAnyH_ready (rs := [8]) (by kernel_rfl) (by simp) ?_
      refine AllReadyH.cons rfl (fun K hK => ?_) AllReadyH.nil
      obtain ⟨u2, e2, own, d2⟩ := litE u1
      obtain ⟨g2, eg2⟩ : ∃ g, g = u1.heap.size := ⟨_, rfl⟩
      have hbase : g2 ≤ u2.heap.size := by rw [eg2]; exact d2.size
      have D2 := D1.trans (d2.mono D1.size)
      have EE := Lib.hid (And.intro e2 eg2)
      rw [← eg2] at own d2
      have bN : V3.heap.size ≤ g2 := by rw [eg2]; exact D1.size
      clear e2 eg2
      go_simp
      rw [← EE.out.1, ← EE.out.2]
      refine hK.out _ _ ?_ (fun hHeld => ?_)
      · exact ⟨(hX8.below D2 hX8.lt).cell 0, (hX8.below D2 hX8.lt).cell 1, (hX10.below D2 hX10.lt).cell 0, (hX10.below D2 hX10.lt).cell 1, (hX12.below D2 hX12.lt).cell 0, (hX12.below D2 hX12.lt).cell 1⟩
      clear hK K EE
      try simp only [Act.put, List.getElem_toArray, List.getElem_cons_succ, List.getElem_cons_zero, List.setIfInBounds_toArray, List.set_cons_zero, List.set_cons_succ]
      refine wpAnyH_ready (rs := [11]) (by kernel_rfl) (by simp) ?_
      refine AllReadyH.cons rfl (fun K hK => ?_) AllReadyH.nil
      have sv := i11.below D2
      obtain ⟨A8, C8, e8, _, _, hR8⟩ := sv
      obtain ⟨rfl, _, rfl⟩ := Value.slice.inj e8
      refine step_append_w _ (by kernel_rfl) (.tmp 102) (.tmp 104) _ rfl g2 2 i0 _ 1 8 Try.underlying24 hi hz0 hz1 hz2 rfl (by omega) _ _ _ rfl own u2.heap.size _ xs1.length _ (is xs1) rfl hR8 (is_one _) (by unfold maxLen; omega) (by omega) hbase ?_
      intro v3 u3 own3 hgr hat
      have d3 : Below g2 u2 u3 := (Below.refl g2 u2).grown hgr hbase (fun j e => (own.lt j e).1)
      have D3 := D2.trans (d3.mono bN)
      rw [← is_append] at own3
      replace own := own3
      replace hbase : g2 ≤ u3.heap.size := Nat.le_trans hbase d3.size
      clear own3 hgr hat
      refine hK.out _ _ ?_ (fun hHeld => ?_)
      · exact ⟨(hX8.below D3 hX8.lt).cell 0, (hX8.below D3 hX8.lt).cell 1, (hX10.below D3 hX10.lt).cell 0, (hX10.below D3 hX10.lt).cell 1, (hX12.below D3 hX12.lt).cell 0, (hX12.below D3 hX12.lt).cell 1⟩
      clear hK K
      try simp only [Act.put, List.getElem_toArray, List.getElem_cons_succ, List.getElem_cons_zero, List.setIfInBounds_toArray, List.set_cons_zero, List.set_cons_succ]
      refine wpAnyH_ready (rs := [14]) (by kernel_rfl) (by simp) ?_
      refine AllReadyH.cons rfl (fun K hK => ?_) AllReadyH.nil
      have sv := i21.below D3
      obtain ⟨A8, C8, e8, _, _, hR8⟩ := sv
      obtain ⟨rfl, _, rfl⟩ := Value.slice.inj e8
      refine step_append_w _ (by kernel_rfl) (.tmp 105) (.tmp 107) _ rfl g2 2 i0 _ 1 8 Try.underlying24 hi hz0 hz1 hz2 rfl (by omega) _ _ _ rfl own u3.heap.size _ xs2.length _ (is xs2) rfl hR8 (is_one _) (by unfold maxLen; omega) (by omega) hbase ?_
      intro v4 u4 own4 hgr hat
      have d4 : Below g2 u3 u4 := (Below.refl g2 u3).grown hgr hbase (fun j e => (own.lt j e).1)
      have D4 := D3.trans (d4.mono bN)
      rw [← is_append] at own4
      replace own := own4
      replace hbase : g2 ≤ u4.heap.size := Nat.le_trans hbase d4.size
      clear own4 hgr hat
      refine hK.out _ _ ?_ (fun hHeld => ?_)
      · exact ⟨(hX8.below D4 hX8.lt).cell 0, (hX8.below D4 hX8.lt).cell 1, (hX10.below D4 hX10.lt).cell 0, (hX10.below D4 hX10.lt).cell 1, (hX12.below D4 hX12.lt).cell 0, (hX12.below D4 hX12.lt).cell 1⟩
      clear hK K
      try simp only [Act.put, List.getElem_toArray, List.getElem_cons_succ, List.getElem_cons_zero, List.setIfInBounds_toArray, List.set_cons_zero, List.set_cons_succ]
      refine wpAnyH_ready (rs := [15]) (by kernel_rfl) (by simp) ?_
      refine AllReadyH.cons rfl (fun K hK => ?_) AllReadyH.nil
      have hown' := own
      rw [List.nil_append, Nat.zero_add] at hown'
      have hI' : IsI u4 v4 xs3 := IsI.of_own (by rw [HZ.out.1, List.length_append]; exact hown')
      go_simp
      refine (same_yes _ _ xs3 _ (i31.below D4) hI').mono ?_
      rintro e u5 ⟨rfl, m5, hm5⟩
      have D5 : Below V3.heap.size V3 u5 := by rw [hm5]; exact below_drewN D4 _
      clear hm5 hown' hI' own hbase bN
      go_wp2_with fail
      refine hK.out _ _ ?_ (fun hHeld => ?_)
      · exact ⟨(hX8.below D5 hX8.lt).cell 0, (hX8.below D5 hX8.lt).cell 1, (hX10.below D5 hX10.lt).cell 0, (hX10.below D5 hX10.lt).cell 1, (hX12.below D5 hX12.lt).cell 0, (hX12.below D5 hX12.lt).cell 1⟩
      clear hK K
      try simp only [Act.put, List.getElem_toArray, List.getElem_cons_succ, List.getElem_cons_zero, List.setIfInBounds_toArray, List.set_cons_zero, List.set_cons_succ]
      refine wpAnyH_take (i := 16) (v := ?rv16) rfl (by kernel_rfl) (by kernel_rfl) (by kernel_rfl) (fun _ _ _ h => h) (Or.inl ⟨by kernel_rfl, ?rhy16⟩) (by assumption) ?rrest16
      case rhy16 => (intro w hSw; (try dsimp only at hSw); go_simp; try (with_reducible rfl))
      try simp only [Act.put, List.getElem_toArray, List.getElem_cons_succ, List.getElem_cons_zero, List.setIfInBounds_toArray, List.set_cons_zero, List.set_cons_succ]
      refine wpAnyH_take (i := 17) (v := ?rv17) rfl (by kernel_rfl) (by kernel_rfl) (by kernel_rfl) (fun _ _ _ h => h) (Or.inl ⟨by kernel_rfl, ?rhy17⟩) (by assumption) ?rrest17
      case rhy17 => (intro w hSw; (try dsimp only at hSw); go_simp; try (with_reducible rfl))
      try simp only [Act.put, List.getElem_toArray, List.getElem_cons_succ, List.getElem_cons_zero, List.setIfInBounds_toArray, List.set_cons_zero, List.set_cons_succ]
      refine wpAnyH_take (i := 18) (v := ?rv18) rfl (by kernel_rfl) (by kernel_rfl) (by kernel_rfl) (fun _ _ _ h => h) (Or.inl ⟨by kernel_rfl, ?rhy18⟩) (by assumption) ?rrest18
      case rhy18 => (intro w hSw; (try dsimp only at hSw); go_simp; try (with_reducible rfl))
      try simp only [Act.put, List.getElem_toArray, List.getElem_cons_succ, List.getElem_cons_zero, List.setIfInBounds_toArray, List.set_cons_zero, List.set_cons_succ]
      refine wpAnyH_take (i := 19) (v := ?rv19) rfl (by kernel_rfl) (by kernel_rfl) (by kernel_rfl) (fun _ _ _ h => h) (Or.inl ⟨by kernel_rfl, ?rhy19⟩) (by assumption) ?rrest19
      case rhy19 => (intro w hSw; (try dsimp only at hSw); go_simp; try (with_reducible rfl))
      try simp only [Act.put, List.getElem_toArray, List.getElem_cons_succ, List.getElem_cons_zero, List.setIfInBounds_toArray, List.set_cons_zero, List.set_cons_succ]
      refine wpAnyH_take (i := 21) (v := ?rv21) rfl (by kernel_rfl) (by kernel_rfl) (by kernel_rfl) (fun _ _ _ h => h) (Or.inl ⟨by kernel_rfl, ?rhy21⟩) (by assumption) ?rrest21
      case rhy21 => (intro w hSw; (try dsimp only at hSw); go_simp; try (with_reducible rfl))
      try simp only [Act.put, List.getElem_toArray, List.getElem_cons_succ, List.getElem_cons_zero, List.setIfInBounds_toArray, List.set_cons_zero, List.set_cons_succ]
      refine wpAnyH_take (i := 22) (v := ?rv22) rfl (by kernel_rfl) (by kernel_rfl) (by kernel_rfl) (fun _ _ _ h => h) (Or.inl ⟨by kernel_rfl, ?rhy22⟩) (by assumption) ?rrest22
      case rhy22 => (intro w hSw; (try dsimp only at hSw); go_simp; try (with_reducible rfl))
      try simp only [Act.put, List.getElem_toArray, List.getElem_cons_succ, List.getElem_cons_zero, List.setIfInBounds_toArray, List.set_cons_zero, List.set_cons_succ]
      refine wpAnyH_take (i := 24) (v := ?rv24) rfl (by kernel_rfl) (by kernel_rfl) (by kernel_rfl) (fun _ _ _ h => h) (Or.inl ⟨by kernel_rfl, ?rhy24⟩) (by assumption) ?rrest24
      case rhy24 => (intro w hSw; (try dsimp only at hSw); go_simp; try (with_reducible rfl))
      try simp only [Act.put, List.getElem_toArray, List.getElem_cons_succ, List.getElem_cons_zero, List.setIfInBounds_toArray, List.set_cons_zero, List.set_cons_succ]
      refine wpAnyH_take (i := 25) (v := ?rv25) rfl (by kernel_rfl) (by kernel_rfl) (by kernel_rfl) (fun _ _ _ h => h) (Or.inl ⟨by kernel_rfl, ?rhy25⟩) (by assumption) ?rrest25
      case rhy25 => (intro w hSw; (try dsimp only at hSw); go_simp; try (with_reducible rfl))
      try simp only [Act.put, List.getElem_toArray, List.getElem_cons_succ, List.getElem_cons_zero, List.setIfInBounds_toArray, List.set_cons_zero, List.set_cons_succ]
      refine wpAnyH_ready (rs := [20]) (by kernel_rfl) (by simp) ?_
      refine AllReadyH.cons rfl (fun K hK => ?_) AllReadyH.nil
      obtain ⟨u6, e6, own, d6⟩ := litE u5
      obtain ⟨g6, eg6⟩ : ∃ g, g = u5.heap.size := ⟨_, rfl⟩
      have hbase : g6 ≤ u6.heap.size := by rw [eg6]; exact d6.size
      have D6 := D5.trans (d6.mono D5.size)
      have EE := Lib.hid (And.intro e6 eg6)
      rw [← eg6] at own d6
      have bN : V3.heap.size ≤ g6 := by rw [eg6]; exact D5.size
      clear e6 eg6
      go_simp
      rw [← EE.out.1, ← EE.out.2]
      refine hK.out _ _ ?_ (fun hHeld => ?_)
      · exact ⟨(hX8.below D6 hX8.lt).cell 0, (hX8.below D6 hX8.lt).cell 1, (hX10.below D6 hX10.lt).cell 0, (hX10.below D6 hX10.lt).cell 1, (hX12.below D6 hX12.lt).cell 0, (hX12.below D6 hX12.lt).cell 1⟩
      clear hK K EE
      try simp only [Act.put, List.getElem_toArray, List.getElem_cons_succ, List.getElem_cons_zero, List.setIfInBounds_toArray, List.set_cons_zero, List.set_cons_succ]
      refine wpAnyH_ready (rs := [23]) (by kernel_rfl) (by simp) ?_
      refine AllReadyH.cons rfl (fun K hK => ?_) AllReadyH.nil
      have sv := i12.below D6
      obtain ⟨A8, C8, e8, _, _, hR8⟩ := sv
      obtain ⟨rfl, _, rfl⟩ := Value.slice.inj e8
      refine step_append_w _ (by kernel_rfl) (.tmp 114) (.tmp 116) _ rfl g6 2 i0 _ 1 8 Try.underlying24 hi hz0 hz1 hz2 rfl (by omega) _ _ _ rfl own u6.heap.size _ ys1.length _ (is ys1) rfl hR8 (is_one _) (by unfold maxLen; omega) (by omega) hbase ?_
      intro v7 u7 own7 hgr hat
      have d7 : Below g6 u6 u7 := (Below.refl g6 u6).grown hgr hbase (fun j e => (own.lt j e).1)
      have D7 := D6.trans (d7.mono bN)
      rw [← is_append] at own7
      replace own := own7
      replace hbase : g6 ≤ u7.heap.size := Nat.le_trans hbase d7.size
      clear own7 hgr hat
      refine hK.out _ _ ?_ (fun hHeld => ?_)
      · exact ⟨(hX8.below D7 hX8.lt).cell 0, (hX8.below D7 hX8.lt).cell 1, (hX10.below D7 hX10.lt).cell 0, (hX10.below D7 hX10.lt).cell 1, (hX12.below D7 hX12.lt).cell 0, (hX12.below D7 hX12.lt).cell 1⟩
      clear hK K
      try simp only [Act.put, List.getElem_toArray, List.getElem_cons_succ, List.getElem_cons_zero, List.setIfInBounds_toArray, List.set_cons_zero, List.set_cons_succ]
      refine wpAnyH_ready (rs := [26]) (by kernel_rfl) (by simp) ?_
      refine AllReadyH.cons rfl (fun K hK => ?_) AllReadyH.nil
      have sv := i22.below D7
      obtain ⟨A8, C8, e8, _, _, hR8⟩ := sv
      obtain ⟨rfl, _, rfl⟩ := Value.slice.inj e8
      refine step_append_w _ (by kernel_rfl) (.tmp 117) (.tmp 119) _ rfl g6 2 i0 _ 1 8 Try.underlying24 hi hz0 hz1 hz2 rfl (by omega) _ _ _ rfl own u7.heap.size _ ys2.length _ (is ys2) rfl hR8 (is_one _) (by unfold maxLen; omega) (by omega) hbase ?_
      intro v8 u8 own8 hgr hat
      have d8 : Below g6 u7 u8 := (Below.refl g6 u7).grown hgr hbase (fun j e => (own.lt j e).1)
      have D8 := D7.trans (d8.mono bN)
      rw [← is_append] at own8
      replace own := own8
      replace hbase : g6 ≤ u8.heap.size := Nat.le_trans hbase d8.size
      clear own8 hgr hat
      refine hK.out _ _ ?_ (fun hHeld => ?_)
      · exact ⟨(hX8.below D8 hX8.lt).cell 0, (hX8.below D8 hX8.lt).cell 1, (hX10.below D8 hX10.lt).cell 0, (hX10.below D8 hX10.lt).cell 1, (hX12.below D8 hX12.lt).cell 0, (hX12.below D8 hX12.lt).cell 1⟩
      clear hK K
      try simp only [Act.put, List.getElem_toArray, List.getElem_cons_succ, List.getElem_cons_zero, List.setIfInBounds_toArray, List.set_cons_zero, List.set_cons_succ]
      refine wpAnyH_ready (rs := [27]) (by kernel_rfl) (by simp) ?_
      refine AllReadyH.cons rfl (fun K hK => ?_) AllReadyH.nil
      have hown' := own
      rw [List.nil_append, Nat.zero_add] at hown'
      have hI' : IsI u8 v8 ys3 := IsI.of_own (by rw [HZ.out.2, List.length_append]; exact hown')
      go_simp
      refine (same_yes _ _ ys3 _ (i32.below D8) hI').mono ?_
      rintro e u9 ⟨rfl, m9, hm9⟩
      have D9 : Below V3.heap.size V3 u9 := by rw [hm9]; exact below_drewN D8 _
      clear hm9 hown' hI' own hbase bN
      go_wp2_with fail
      refine hK.out _ _ ?_ (fun hHeld => ?_)
      · exact ⟨(hX8.below D9 hX8.lt).cell 0, (hX8.below D9 hX8.lt).cell 1, (hX10.below D9 hX10.lt).cell 0, (hX10.below D9 hX10.lt).cell 1, (hX12.below D9 hX12.lt).cell 0, (hX12.below D9 hX12.lt).cell 1⟩
      clear hK K
      try simp only [Act.put, List.getElem_toArray, List.getElem_cons_succ, List.getElem_cons_zero, List.setIfInBounds_toArray, List.set_cons_zero, List.set_cons_succ]
      refine wpAnyH_take (i := 28) (v := ?rv28) rfl (by kernel_rfl) (by kernel_rfl) (by kernel_rfl) (fun _ _ _ h => h) (Or.inl ⟨by kernel_rfl, ?rhy28⟩) (by assumption) ?rrest28
      case rhy28 => (intro w hSw; (try dsimp only at hSw); go_simp; try (with_reducible rfl))
      try simp only [Act.put, List.getElem_toArray, List.getElem_cons_succ, List.getElem_cons_zero, List.setIfInBounds_toArray, List.set_cons_zero, List.set_cons_succ]
      try dsimp only
      refine wpAnyH_take (i := 29) (v := ?rv29) rfl (by kernel_rfl) (by kernel_rfl) (by kernel_rfl) (fun _ _ _ h => h) (Or.inl ⟨by kernel_rfl, ?rhy29⟩) (by assumption) ?rrest29
      case rhy29 => (intro w hSw; (try dsimp only at hSw); go_simp; try (with_reducible rfl))
      try simp only [Act.put, List.getElem_toArray, List.getElem_cons_succ, List.getElem_cons_zero, List.setIfInBounds_toArray, List.set_cons_zero, List.set_cons_succ]
      try dsimp only
      refine wpAnyH_done (by kernel_rfl) ?_ _
      refine NoPanic.normal ?_
      go_wp2
      go_ret
      exact ⟨rfl, hB.trans (D9.mono hB.size)⟩
  case hstep =>
    rintro l a w i o ⟨b0, b4, b8, b9, b13, b17, b18, b22, b26, b27, b28, x25, x29, x33, x34, x38, x42, x43, x47, x51, x52, x7, n7, rfl, rfl, hT, h52, h7, hA, hL, hBel, i4_0, i8_4, i13_9, i13_8, i17_13, i22_18, i22_17, i26_22, i27_26⟩ hTl ho hl hd K hK
    rcases i with _ | _ | _ | _ | _ | _ | _ | _ | _ | _ | _ | _ | _ | _ | _ | _ | _ | _ | _ | _ | _ | _ | _ | _ | _ | _ | _ | _ | _ | _ | i
    · obtain rfl : b0 = false := hl
      obtain rfl : b4 = false := off_ i4_0 rfl
      obtain rfl : b8 = false := off_ i8_4 rfl
      obtain rfl : b13 = false := off_ i13_8 rfl
      obtain rfl : b17 = false := off_ i17_13 rfl
      obtain rfl : b22 = false := off_ i22_17 rfl
      obtain rfl : b26 = false := off_ i26_22 rfl
      obtain rfl : b27 = false := off_ i27_26 rfl
      simp only [List.getElem?_toArray, List.getElem?_cons_succ, List.getElem?_cons_zero, Option.some.injEq] at ho
      subst ho
      have hT1 := Three.congr (on' := on3 true b9 b18) (v' := fn3 (cur false false (.slice (some ⟨w.heap.size, 0, none⟩) 0 0) x29 x33) (cur false false x34 x38 x42) (cur false false x43 x47 x51)) (l' := fn3 (cur false false [] A (A ++ A')) (cur false false [] B (B ++ B')) (cur false false [] D (D ++ D'))) (hT.lit hBel.size 0) (fun i hi => match i, hi with | 0, _ => ⟨rfl, rfl, rfl⟩ | 1, h => ⟨h, rfl, rfl⟩ | 2, h => ⟨h, rfl, rfl⟩ | _ + 3, h => nomatch (show false = true from h))
      have hB1 := hBel.alloc hBel.size (.cells #[] 2)
      go_simp
      exact hK.out _ _ (⟨(hL.alloc (.cells #[] 2)).cell 0, (hL.alloc (.cells #[] 2)).cell 1, (hL.alloc (.cells #[] 2)).cell 2, (hL.alloc (.cells #[] 2)).cell 3, (hL.alloc (.cells #[] 2)).cell 4, (hL.alloc (.cells #[] 2)).cell 5, (hL.alloc (.cells #[] 2)).cell 6, (hL.alloc (.cells #[] 2)).cell 7⟩) ⟨true, false, false, b9, false, false, b18, false, false, false, b28, (.slice (some ⟨w.heap.size, 0, none⟩) 0 0), x29, x33, x34, x38, x42, x43, x47, x51, x52, x7, n7, by kernel_rfl, by kernel_rfl, hT1, (fun e => nomatch e), h7.alloc _, hA.alloc _, hL.alloc _, hB1, (fun _ => rfl), (fun e => nomatch e), (fun e => nomatch e), (fun e => nomatch e), (fun e => nomatch e), (fun e => nomatch e), (fun e => nomatch e), (fun e => nomatch e), (fun e => nomatch e)⟩
    · exact nomatch (show true = false from hl)
    · exact nomatch (show true = false from hl)
    · exact nomatch (show true = false from hl)
    · obtain rfl : b4 = false := hl
      obtain rfl : b8 = false := off_ i8_4 rfl
      obtain rfl : b13 = false := off_ i13_8 rfl
      obtain rfl : b17 = false := off_ i17_13 rfl
      obtain rfl : b22 = false := off_ i22_17 rfl
      obtain rfl : b26 = false := off_ i26_22 rfl
      obtain rfl : b27 = false := off_ i27_26 rfl
      simp only [List.getElem?_toArray, List.getElem?_cons_succ, List.getElem?_cons_zero, Option.some.injEq] at ho
      subst ho
      obtain rfl : b0 = true := hd ⟨0, .data⟩ (by simp) rfl
      have hown : w.ownsRow wS.heap.size 2 1 x25 0 (is []) := hT.own 0 rfl
      obtain ⟨A8, C8, e8, _, _, hR8⟩ := ha
      obtain ⟨rfl, _, rfl⟩ := Value.slice.inj e8
      refine step_append_any _ rfl (.tmp 25) (.tmp 28) _ rfl wS.heap.size 2 i0 _ 1 8 Try.underlying24 hi hz0 hz1 hz2 rfl (by omega) _ _ _ rfl hown wS.heap.size Aa A.length Ca (is A) rfl (hR8.below hBel) (is_one _) (by unfold maxLen; omega) (by omega) hBel.size ?_
      intro v' w' hown' hgrow hat
      have hgr : w.grownBy w' x25.ownBlock := hgrow
      have hT1 := Three.congr (on' := on3 true b9 b18) (v' := fn3 (cur true false x25 v' x33) (cur false false x34 x38 x42) (cur false false x43 x47 x51)) (l' := fn3 (cur true false [] A (A ++ A')) (cur false false [] B (B ++ B')) (cur false false [] D (D ++ D'))) (hT.push (c := 0) rfl (m := A) hown' hgr (by first | exact hat.imp Eq.symm id | exact hat.imp (fun e => e.symm) id)) (fun i hi => match i, hi with | 0, _ => ⟨rfl, rfl, rfl⟩ | 1, h => ⟨h, rfl, rfl⟩ | 2, h => ⟨h, rfl, rfl⟩ | _ + 3, h => nomatch (show false = true from h))
      have hA1 := hA.grown hgr (fun e => own_type hown hA (by decide) e.symm)
      have hL1 := hL.grown hgr (fun e => own_type hown hL (by decide) e.symm)
      have hB1 := hBel.grown hgr hBel.size (fun j e => (hown.lt j e).1)
      have h71 : Got 26 #[.slice none 0 0, .slice none 0 0, .slice none 0 0, .slice none 0 0] wS.heap.size w' b28 x7 n7 := fun e => ⟨(h7 e).1, (h7 e).2.1, (h7 e).2.2.grown hgr (fun e' => own_type hown (h7 e).2.2 (by decide) e'.symm)⟩
      exact hK.out _ _ (⟨hL1.cell 0, hL1.cell 1, hL1.cell 2, hL1.cell 3, hL1.cell 4, hL1.cell 5, hL1.cell 6, hL1.cell 7⟩) ⟨true, true, false, b9, false, false, b18, false, false, false, b28, x25, v', x33, x34, x38, x42, x43, x47, x51, x52, x7, n7, by kernel_rfl, by kernel_rfl, hT1, (fun e => nomatch e), h71, hA1, hL1, hB1, (fun _ => rfl), (fun _ => rfl), (fun e => nomatch e), (fun e => nomatch e), (fun e => nomatch e), (fun e => nomatch e), (fun e => nomatch e), (fun e => nomatch e), (fun e => nomatch e)⟩
    · exact nomatch (show true = false from hl)
    · exact nomatch (show true = false from hl)
    · exact nomatch (show true = false from hl)
    · obtain rfl : b8 = false := hl
      obtain rfl : b13 = false := off_ i13_8 rfl
      obtain rfl : b17 = false := off_ i17_13 rfl
      obtain rfl : b22 = false := off_ i22_17 rfl
      obtain rfl : b26 = false := off_ i26_22 rfl
      obtain rfl : b27 = false := off_ i27_26 rfl
      simp only [List.getElem?_toArray, List.getElem?_cons_succ, List.getElem?_cons_zero, Option.some.injEq] at ho
      subst ho
      obtain rfl : b4 = true := hd ⟨4, .data⟩ (by simp) rfl
      obtain rfl : b0 = true := i4_0 rfl
      have hown : w.ownsRow wS.heap.size 2 1 x29 A.length (is A) := hT.own 0 rfl
      obtain ⟨A8, C8, e8, _, _, hR8⟩ := ha'
      obtain ⟨rfl, _, rfl⟩ := Value.slice.inj e8
      refine step_append_any _ rfl (.tmp 29) (.tmp 32) _ rfl wS.heap.size 2 i0 _ 1 8 Try.underlying24 hi hz0 hz1 hz2 rfl (by omega) _ _ _ rfl hown wS.heap.size Aa' A'.length Ca' (is A') rfl (hR8.below hBel) (is_one _) (by unfold maxLen; omega) (by omega) hBel.size ?_
      intro v' w' hown' hgrow hat
      have hgr : w.grownBy w' x29.ownBlock := hgrow
      have hT1 := Three.congr (on' := on3 true b9 b18) (v' := fn3 (cur true true x25 x29 v') (cur false false x34 x38 x42) (cur false false x43 x47 x51)) (l' := fn3 (cur true true [] A (A ++ A')) (cur false false [] B (B ++ B')) (cur false false [] D (D ++ D'))) (hT.push (c := 0) rfl (m := A') hown' hgr (by first | exact hat.imp Eq.symm id | exact hat.imp (fun e => e.symm) id)) (fun i hi => match i, hi with | 0, _ => ⟨rfl, rfl, rfl⟩ | 1, h => ⟨h, rfl, rfl⟩ | 2, h => ⟨h, rfl, rfl⟩ | _ + 3, h => nomatch (show false = true from h))
      have hA1 := hA.grown hgr (fun e => own_type hown hA (by decide) e.symm)
      have hL1 := hL.grown hgr (fun e => own_type hown hL (by decide) e.symm)
      have hB1 := hBel.grown hgr hBel.size (fun j e => (hown.lt j e).1)
      have h71 : Got 26 #[.slice none 0 0, .slice none 0 0, .slice none 0 0, .slice none 0 0] wS.heap.size w' b28 x7 n7 := fun e => ⟨(h7 e).1, (h7 e).2.1, (h7 e).2.2.grown hgr (fun e' => own_type hown (h7 e).2.2 (by decide) e'.symm)⟩
      exact hK.out _ _ (⟨hL1.cell 0, hL1.cell 1, hL1.cell 2, hL1.cell 3, hL1.cell 4, hL1.cell 5, hL1.cell 6, hL1.cell 7⟩) ⟨true, true, true, b9, false, false, b18, false, false, false, b28, x25, x29, v', x34, x38, x42, x43, x47, x51, x52, x7, n7, by kernel_rfl, by kernel_rfl, hT1, (fun e => nomatch e), h71, hA1, hL1, hB1, i4_0, (fun _ => rfl), (fun e => nomatch e), (fun _ => rfl), (fun e => nomatch e), (fun e => nomatch e), (fun e => nomatch e), (fun e => nomatch e), (fun e => nomatch e)⟩
    · obtain rfl : b9 = false := hl
      obtain rfl : b13 = false := off_ i13_9 rfl
      obtain rfl : b17 = false := off_ i17_13 rfl
      obtain rfl : b22 = false := off_ i22_17 rfl
      obtain rfl : b26 = false := off_ i26_22 rfl
      obtain rfl : b27 = false := off_ i27_26 rfl
      simp only [List.getElem?_toArray, List.getElem?_cons_succ, List.getElem?_cons_zero, Option.some.injEq] at ho
      subst ho
      have hT1 := Three.congr (on' := on3 b0 true b18) (v' := fn3 (cur b4 b8 x25 x29 x33) (cur false false (.slice (some ⟨w.heap.size, 0, none⟩) 0 0) x38 x42) (cur false false x43 x47 x51)) (l' := fn3 (cur b4 b8 [] A (A ++ A')) (cur false false [] B (B ++ B')) (cur false false [] D (D ++ D'))) (hT.lit hBel.size 1) (fun i hi => match i, hi with | 0, h => ⟨h, rfl, rfl⟩ | 1, _ => ⟨rfl, rfl, rfl⟩ | 2, h => ⟨h, rfl, rfl⟩ | _ + 3, h => nomatch (show false = true from h))
      have hB1 := hBel.alloc hBel.size (.cells #[] 2)
      go_simp
      exact hK.out _ _ (⟨(hL.alloc (.cells #[] 2)).cell 0, (hL.alloc (.cells #[] 2)).cell 1, (hL.alloc (.cells #[] 2)).cell 2, (hL.alloc (.cells #[] 2)).cell 3, (hL.alloc (.cells #[] 2)).cell 4, (hL.alloc (.cells #[] 2)).cell 5, (hL.alloc (.cells #[] 2)).cell 6, (hL.alloc (.cells #[] 2)).cell 7⟩) ⟨b0, b4, b8, true, false, false, b18, false, false, false, b28, x25, x29, x33, (.slice (some ⟨w.heap.size, 0, none⟩) 0 0), x38, x42, x43, x47, x51, x52, x7, n7, by kernel_rfl, by kernel_rfl, hT1, (fun e => nomatch e), h7.alloc _, hA.alloc _, hL.alloc _, hB1, i4_0, i8_4, (fun _ => rfl), (fun e => nomatch e), (fun e => nomatch e), (fun e => nomatch e), (fun e => nomatch e), (fun e => nomatch e), (fun e => nomatch e)⟩
    · exact nomatch (show true = false from hl)
    · exact nomatch (show true = false from hl)
    · exact nomatch (show true = false from hl)
    · obtain rfl : b13 = false := hl
      obtain rfl : b17 = false := off_ i17_13 rfl
      obtain rfl : b22 = false := off_ i22_17 rfl
      obtain rfl : b26 = false := off_ i26_22 rfl
      obtain rfl : b27 = false := off_ i27_26 rfl
      simp only [List.getElem?_toArray, List.getElem?_cons_succ, List.getElem?_cons_zero, Option.some.injEq] at ho
      subst ho
      obtain rfl : b9 = true := hd ⟨9, .data⟩ (by simp) rfl
      have hown : w.ownsRow wS.heap.size 2 1 x34 0 (is []) := hT.own 1 rfl
      obtain ⟨A8, C8, e8, _, _, hR8⟩ := hb
      obtain ⟨rfl, _, rfl⟩ := Value.slice.inj e8
      refine step_append_any _ rfl (.tmp 34) (.tmp 37) _ rfl wS.heap.size 2 i0 _ 1 8 Try.underlying24 hi hz0 hz1 hz2 rfl (by omega) _ _ _ rfl hown wS.heap.size Ab B.length Cb (is B) rfl (hR8.below hBel) (is_one _) (by unfold maxLen; omega) (by omega) hBel.size ?_
      intro v' w' hown' hgrow hat
      have hgr : w.grownBy w' x34.ownBlock := hgrow
      have hT1 := Three.congr (on' := on3 b0 true b18) (v' := fn3 (cur b4 b8 x25 x29 x33) (cur true false x34 v' x42) (cur false false x43 x47 x51)) (l' := fn3 (cur b4 b8 [] A (A ++ A')) (cur true false [] B (B ++ B')) (cur false false [] D (D ++ D'))) (hT.push (c := 1) rfl (m := B) hown' hgr (by first | exact hat.imp Eq.symm id | exact hat.imp (fun e => e.symm) id)) (fun i hi => match i, hi with | 0, h => ⟨h, rfl, rfl⟩ | 1, _ => ⟨rfl, rfl, rfl⟩ | 2, h => ⟨h, rfl, rfl⟩ | _ + 3, h => nomatch (show false = true from h))
      have hA1 := hA.grown hgr (fun e => own_type hown hA (by decide) e.symm)
      have hL1 := hL.grown hgr (fun e => own_type hown hL (by decide) e.symm)
      have hB1 := hBel.grown hgr hBel.size (fun j e => (hown.lt j e).1)
      have h71 : Got 26 #[.slice none 0 0, .slice none 0 0, .slice none 0 0, .slice none 0 0] wS.heap.size w' b28 x7 n7 := fun e => ⟨(h7 e).1, (h7 e).2.1, (h7 e).2.2.grown hgr (fun e' => own_type hown (h7 e).2.2 (by decide) e'.symm)⟩
      exact hK.out _ _ (⟨hL1.cell 0, hL1.cell 1, hL1.cell 2, hL1.cell 3, hL1.cell 4, hL1.cell 5, hL1.cell 6, hL1.cell 7⟩) ⟨b0, b4, b8, true, true, false, b18, false, false, false, b28, x25, x29, x33, x34, v', x42, x43, x47, x51, x52, x7, n7, by kernel_rfl, by kernel_rfl, hT1, (fun e => nomatch e), h71, hA1, hL1, hB1, i4_0, i8_4, (fun _ => rfl), (fun _ => hd ⟨8, .chain⟩ (by simp) rfl), (fun _ => rfl), (fun e => nomatch e), (fun e => nomatch e), (fun e => nomatch e), (fun e => nomatch e)⟩
    · exact nomatch (show true = false from hl)
    · exact nomatch (show true = false from hl)
    · exact nomatch (show true = false from hl)
    · obtain rfl : b17 = false := hl
      obtain rfl : b22 = false := off_ i22_17 rfl
      obtain rfl : b26 = false := off_ i26_22 rfl
      obtain rfl : b27 = false := off_ i27_26 rfl
      simp only [List.getElem?_toArray, List.getElem?_cons_succ, List.getElem?_cons_zero, Option.some.injEq] at ho
      subst ho
      obtain rfl : b13 = true := hd ⟨13, .data⟩ (by simp) rfl
      obtain rfl : b9 = true := i13_9 rfl
      have hown : w.ownsRow wS.heap.size 2 1 x38 B.length (is B) := hT.own 1 rfl
      obtain ⟨A8, C8, e8, _, _, hR8⟩ := hb'
      obtain ⟨rfl, _, rfl⟩ := Value.slice.inj e8
      refine step_append_any _ rfl (.tmp 38) (.tmp 41) _ rfl wS.heap.size 2 i0 _ 1 8 Try.underlying24 hi hz0 hz1 hz2 rfl (by omega) _ _ _ rfl hown wS.heap.size Ab' B'.length Cb' (is B') rfl (hR8.below hBel) (is_one _) (by unfold maxLen; omega) (by omega) hBel.size ?_
      intro v' w' hown' hgrow hat
      have hgr : w.grownBy w' x38.ownBlock := hgrow
      have hT1 := Three.congr (on' := on3 b0 true b18) (v' := fn3 (cur b4 b8 x25 x29 x33) (cur true true x34 x38 v') (cur false false x43 x47 x51)) (l' := fn3 (cur b4 b8 [] A (A ++ A')) (cur true true [] B (B ++ B')) (cur false false [] D (D ++ D'))) (hT.push (c := 1) rfl (m := B') hown' hgr (by first | exact hat.imp Eq.symm id | exact hat.imp (fun e => e.symm) id)) (fun i hi => match i, hi with | 0, h => ⟨h, rfl, rfl⟩ | 1, _ => ⟨rfl, rfl, rfl⟩ | 2, h => ⟨h, rfl, rfl⟩ | _ + 3, h => nomatch (show false = true from h))
      have hA1 := hA.grown hgr (fun e => own_type hown hA (by decide) e.symm)
      have hL1 := hL.grown hgr (fun e => own_type hown hL (by decide) e.symm)
      have hB1 := hBel.grown hgr hBel.size (fun j e => (hown.lt j e).1)
      have h71 : Got 26 #[.slice none 0 0, .slice none 0 0, .slice none 0 0, .slice none 0 0] wS.heap.size w' b28 x7 n7 := fun e => ⟨(h7 e).1, (h7 e).2.1, (h7 e).2.2.grown hgr (fun e' => own_type hown (h7 e).2.2 (by decide) e'.symm)⟩
      exact hK.out _ _ (⟨hL1.cell 0, hL1.cell 1, hL1.cell 2, hL1.cell 3, hL1.cell 4, hL1.cell 5, hL1.cell 6, hL1.cell 7⟩) ⟨b0, b4, b8, true, true, true, b18, false, false, false, b28, x25, x29, x33, x34, x38, v', x43, x47, x51, x52, x7, n7, by kernel_rfl, by kernel_rfl, hT1, (fun e => nomatch e), h71, hA1, hL1, hB1, i4_0, i8_4, i13_9, i13_8, (fun _ => rfl), (fun e => nomatch e), (fun _ => rfl), (fun e => nomatch e), (fun e => nomatch e)⟩
    · obtain rfl : b18 = false := hl
      obtain rfl : b22 = false := off_ i22_18 rfl
      obtain rfl : b26 = false := off_ i26_22 rfl
      obtain rfl : b27 = false := off_ i27_26 rfl
      simp only [List.getElem?_toArray, List.getElem?_cons_succ, List.getElem?_cons_zero, Option.some.injEq] at ho
      subst ho
      have hT1 := Three.congr (on' := on3 b0 b9 true) (v' := fn3 (cur b4 b8 x25 x29 x33) (cur b13 b17 x34 x38 x42) (cur false false (.slice (some ⟨w.heap.size, 0, none⟩) 0 0) x47 x51)) (l' := fn3 (cur b4 b8 [] A (A ++ A')) (cur b13 b17 [] B (B ++ B')) (cur false false [] D (D ++ D'))) (hT.lit hBel.size 2) (fun i hi => match i, hi with | 0, h => ⟨h, rfl, rfl⟩ | 1, h => ⟨h, rfl, rfl⟩ | 2, _ => ⟨rfl, rfl, rfl⟩ | _ + 3, h => nomatch (show false = true from h))
      have hB1 := hBel.alloc hBel.size (.cells #[] 2)
      go_simp
      exact hK.out _ _ (⟨(hL.alloc (.cells #[] 2)).cell 0, (hL.alloc (.cells #[] 2)).cell 1, (hL.alloc (.cells #[] 2)).cell 2, (hL.alloc (.cells #[] 2)).cell 3, (hL.alloc (.cells #[] 2)).cell 4, (hL.alloc (.cells #[] 2)).cell 5, (hL.alloc (.cells #[] 2)).cell 6, (hL.alloc (.cells #[] 2)).cell 7⟩) ⟨b0, b4, b8, b9, b13, b17, true, false, false, false, b28, x25, x29, x33, x34, x38, x42, (.slice (some ⟨w.heap.size, 0, none⟩) 0 0), x47, x51, x52, x7, n7, by kernel_rfl, by kernel_rfl, hT1, (fun e => nomatch e), h7.alloc _, hA.alloc _, hL.alloc _, hB1, i4_0, i8_4, i13_9, i13_8, i17_13, (fun _ => rfl), (fun e => nomatch e), (fun e => nomatch e), (fun e => nomatch e)⟩
    · exact nomatch (show true = false from hl)
    · exact nomatch (show true = false from hl)
    · exact nomatch (show true = false from hl)
    · obtain rfl : b22 = false := hl
      obtain rfl : b26 = false := off_ i26_22 rfl
      obtain rfl : b27 = false := off_ i27_26 rfl
      simp only [List.getElem?_toArray, List.getElem?_cons_succ, List.getElem?_cons_zero, Option.some.injEq] at ho
      subst ho
      obtain rfl : b18 = true := hd ⟨18, .data⟩ (by simp) rfl
      have hown : w.ownsRow wS.heap.size 2 1 x43 0 (is []) := hT.own 2 rfl
      obtain ⟨A8, C8, e8, _, _, hR8⟩ := hdD
      obtain ⟨rfl, _, rfl⟩ := Value.slice.inj e8
      refine step_append_any _ rfl (.tmp 43) (.tmp 46) _ rfl wS.heap.size 2 i0 _ 1 8 Try.underlying24 hi hz0 hz1 hz2 rfl (by omega) _ _ _ rfl hown wS.heap.size Ad D.length Cd (is D) rfl (hR8.below hBel) (is_one _) (by unfold maxLen; omega) (by omega) hBel.size ?_
      intro v' w' hown' hgrow hat
      have hgr : w.grownBy w' x43.ownBlock := hgrow
      have hT1 := Three.congr (on' := on3 b0 b9 true) (v' := fn3 (cur b4 b8 x25 x29 x33) (cur b13 b17 x34 x38 x42) (cur true false x43 v' x51)) (l' := fn3 (cur b4 b8 [] A (A ++ A')) (cur b13 b17 [] B (B ++ B')) (cur true false [] D (D ++ D'))) (hT.push (c := 2) rfl (m := D) hown' hgr (by first | exact hat.imp Eq.symm id | exact hat.imp (fun e => e.symm) id)) (fun i hi => match i, hi with | 0, h => ⟨h, rfl, rfl⟩ | 1, h => ⟨h, rfl, rfl⟩ | 2, _ => ⟨rfl, rfl, rfl⟩ | _ + 3, h => nomatch (show false = true from h))
      have hA1 := hA.grown hgr (fun e => own_type hown hA (by decide) e.symm)
      have hL1 := hL.grown hgr (fun e => own_type hown hL (by decide) e.symm)
      have hB1 := hBel.grown hgr hBel.size (fun j e => (hown.lt j e).1)
      have h71 : Got 26 #[.slice none 0 0, .slice none 0 0, .slice none 0 0, .slice none 0 0] wS.heap.size w' b28 x7 n7 := fun e => ⟨(h7 e).1, (h7 e).2.1, (h7 e).2.2.grown hgr (fun e' => own_type hown (h7 e).2.2 (by decide) e'.symm)⟩
      exact hK.out _ _ (⟨hL1.cell 0, hL1.cell 1, hL1.cell 2, hL1.cell 3, hL1.cell 4, hL1.cell 5, hL1.cell 6, hL1.cell 7⟩) ⟨b0, b4, b8, b9, b13, b17, true, true, false, false, b28, x25, x29, x33, x34, x38, x42, x43, v', x51, x52, x7, n7, by kernel_rfl, by kernel_rfl, hT1, (fun e => nomatch e), h71, hA1, hL1, hB1, i4_0, i8_4, i13_9, i13_8, i17_13, (fun _ => rfl), (fun _ => hd ⟨17, .chain⟩ (by simp) rfl), (fun _ => rfl), (fun e => nomatch e)⟩
    · exact nomatch (show true = false from hl)
    · exact nomatch (show true = false from hl)
    · exact nomatch (show true = false from hl)
    · obtain rfl : b26 = false := hl
      obtain rfl : b27 = false := off_ i27_26 rfl
      simp only [List.getElem?_toArray, List.getElem?_cons_succ, List.getElem?_cons_zero, Option.some.injEq] at ho
      subst ho
      obtain rfl : b22 = true := hd ⟨22, .data⟩ (by simp) rfl
      obtain rfl : b18 = true := i22_18 rfl
      have hown : w.ownsRow wS.heap.size 2 1 x47 D.length (is D) := hT.own 2 rfl
      obtain ⟨A8, C8, e8, _, _, hR8⟩ := hd'
      obtain ⟨rfl, _, rfl⟩ := Value.slice.inj e8
      refine step_append_any _ rfl (.tmp 47) (.tmp 50) _ rfl wS.heap.size 2 i0 _ 1 8 Try.underlying24 hi hz0 hz1 hz2 rfl (by omega) _ _ _ rfl hown wS.heap.size Ad' D'.length Cd' (is D') rfl (hR8.below hBel) (is_one _) (by unfold maxLen; omega) (by omega) hBel.size ?_
      intro v' w' hown' hgrow hat
      have hgr : w.grownBy w' x47.ownBlock := hgrow
      have hT1 := Three.congr (on' := on3 b0 b9 true) (v' := fn3 (cur b4 b8 x25 x29 x33) (cur b13 b17 x34 x38 x42) (cur true true x43 x47 v')) (l' := fn3 (cur b4 b8 [] A (A ++ A')) (cur b13 b17 [] B (B ++ B')) (cur true true [] D (D ++ D'))) (hT.push (c := 2) rfl (m := D') hown' hgr (by first | exact hat.imp Eq.symm id | exact hat.imp (fun e => e.symm) id)) (fun i hi => match i, hi with | 0, h => ⟨h, rfl, rfl⟩ | 1, h => ⟨h, rfl, rfl⟩ | 2, _ => ⟨rfl, rfl, rfl⟩ | _ + 3, h => nomatch (show false = true from h))
      have hA1 := hA.grown hgr (fun e => own_type hown hA (by decide) e.symm)
      have hL1 := hL.grown hgr (fun e => own_type hown hL (by decide) e.symm)
      have hB1 := hBel.grown hgr hBel.size (fun j e => (hown.lt j e).1)
      have h71 : Got 26 #[.slice none 0 0, .slice none 0 0, .slice none 0 0, .slice none 0 0] wS.heap.size w' b28 x7 n7 := fun e => ⟨(h7 e).1, (h7 e).2.1, (h7 e).2.2.grown hgr (fun e' => own_type hown (h7 e).2.2 (by decide) e'.symm)⟩
      exact hK.out _ _ (⟨hL1.cell 0, hL1.cell 1, hL1.cell 2, hL1.cell 3, hL1.cell 4, hL1.cell 5, hL1.cell 6, hL1.cell 7⟩) ⟨b0, b4, b8, b9, b13, b17, true, true, true, false, b28, x25, x29, x33, x34, x38, x42, x43, x47, v', x52, x7, n7, by kernel_rfl, by kernel_rfl, hT1, (fun e => nomatch e), h71, hA1, hL1, hB1, i4_0, i8_4, i13_9, i13_8, i17_13, i22_18, i22_17, (fun _ => rfl), (fun _ => rfl)⟩
    · obtain rfl : b27 = false := hl
      simp only [List.getElem?_toArray, List.getElem?_cons_succ, List.getElem?_cons_zero, Option.some.injEq] at ho
      subst ho
      obtain rfl : b26 = true := hd ⟨26, .data⟩ (by simp) rfl
      obtain rfl : b22 = true := i26_22 rfl
      obtain rfl : b17 = true := i22_17 rfl
      obtain rfl : b18 = true := i22_18 rfl
      obtain rfl : b13 = true := i17_13 rfl
      obtain rfl : b8 = true := i13_8 rfl
      obtain rfl : b9 = true := i13_9 rfl
      obtain rfl : b4 = true := i8_4 rfl
      obtain rfl : b0 = true := i4_0 rfl
      have q0 : w.ownsRow wS.heap.size 2 1 x33 (A ++ A').length (is (A ++ A')) := hT.own 0 rfl
      rw [List.length_append] at q0
      obtain ⟨A1, C1, rfl, _⟩ := own_form q0
      have q1 : w.ownsRow wS.heap.size 2 1 x42 (B ++ B').length (is (B ++ B')) := hT.own 1 rfl
      rw [List.length_append] at q1
      obtain ⟨A2, C2, rfl, _⟩ := own_form q1
      have q2 : w.ownsRow wS.heap.size 2 1 x51 (D ++ D').length (is (D ++ D')) := hT.own 2 rfl
      rw [List.length_append] at q2
      obtain ⟨A3, C3, rfl, _⟩ := own_form q2
      go_simp
      exact hK.out _ _ (⟨hL.cell 0, hL.cell 1, hL.cell 2, hL.cell 3, hL.cell 4, hL.cell 5, hL.cell 6, hL.cell 7⟩) ⟨true, true, true, true, true, true, true, true, true, true, b28, x25, x29, (.slice A1 (A.length + A'.length) C1), x34, x38, (.slice A2 (B.length + B'.length) C2), x43, x47, (.slice A3 (D.length + D'.length) C3), (.agg #[(.slice A1 (A.length + A'.length) C1), (.slice A2 (B.length + B'.length) C2), .slice none 0 0, (.slice A3 (D.length + D'.length) C3)]), x7, n7, by kernel_rfl, by kernel_rfl, hT, (fun _ => rfl), h7, hA, hL, hBel, (fun _ => rfl), (fun _ => rfl), (fun _ => rfl), (fun _ => rfl), (fun _ => rfl), (fun _ => rfl), (fun _ => rfl), (fun _ => rfl), (fun _ => rfl)⟩
    · obtain rfl : b28 = false := hl
      simp only [List.getElem?_toArray, List.getElem?_cons_succ, List.getElem?_cons_zero, Option.some.injEq] at ho
      subst ho
      have hSz := hBel.size
      have hB1 := hBel.alloc hBel.size (.cells #[.slice none 0 0, .slice none 0 0, .slice none 0 0, .slice none 0 0] 26)
      go_simp
      exact hK.out _ _ (⟨(hL.alloc _).cell 0, (hL.alloc _).cell 1, (hL.alloc _).cell 2, (hL.alloc _).cell 3, (hL.alloc _).cell 4, (hL.alloc _).cell 5, (hL.alloc _).cell 6, (hL.alloc _).cell 7⟩) ⟨b0, b4, b8, b9, b13, b17, b18, b22, b26, b27, true, x25, x29, x33, x34, x38, x42, x43, x47, x51, x52, (.pointer (some ⟨w.heap.size, 0, none⟩)), w.heap.size, by kernel_rfl, by kernel_rfl, hT.alloc _, h52, Got.new hSz, hA.alloc _, hL.alloc _, hB1, i4_0, i8_4, i13_9, i13_8, i17_13, i22_18, i22_17, i26_22, i27_26⟩
    · exfalso
      simp only [List.getElem?_toArray, List.getElem?_cons_succ, List.getElem?_cons_zero, Option.some.injEq] at ho
      subst ho
      obtain rfl : b27 = true := hd ⟨27, .data⟩ (by simp) rfl
      obtain rfl : b28 = true := hd ⟨28, .data⟩ (by simp) rfl
      obtain rfl : b26 = true := i27_26 rfl
      obtain rfl : b22 = true := i26_22 rfl
      obtain rfl : b17 = true := i22_17 rfl
      obtain rfl : b18 = true := i22_18 rfl
      obtain rfl : b13 = true := i17_13 rfl
      obtain rfl : b8 = true := i13_8 rfl
      obtain rfl : b9 = true := i13_9 rfl
      obtain rfl : b4 = true := i8_4 rfl
      obtain rfl : b0 = true := i4_0 rfl
      exact nomatch (show true = false from hTl)
    · exact nomatch (show none = some o from ho)
set_option maxRecDepth 100000 in
set_option maxHeartbeats 16000000 in
theorem MomApart_many1 (lr mu wd fr : Int) (nest : Bool) (c0 c1 c2 c3 c4 c5 c6 c7 : Value) (A B C D A' B' C' D' : List Int) (wS : World) (h : IsR wS (.agg #[c0, c1, c2, c3]) A B C D) (h' : IsR wS (.agg #[c4, c5, c6, c7]) A' B' C' D')
    (_ : In64 lr) (_ : In64 mu) (_ : In64 wd) (hs : Short A B C D) (hs' : Short A' B' C' D') (h1 : ¬ A.length + B.length + C.length + D.length ≤ 18) :
    Calls Try.prog 5 #[.agg #[.int .i64 lr, .int .i64 mu, .int .i64 wd, .bool nest], .agg #[c0, c1, c2, c3, c4, c5, c6, c7], .int .i64 fr] wS fun e w' => e = .returned (.bool true) ∧ Below wS.heap.size wS w' := by
  obtain ⟨i0, hi, hz0, hz1, hz2⟩ := info_parts info_i64
  have hF1 := fun v w h => few17_any v A B C D 18 w h hs.2.1 hs.2.2.1 hs.2.2.2.1 hs.2.2.2.2 (by omega)
  have hF2 := fun v w h => few17_any v A' B' C' D' 18 w h hs'.2.1 hs'.2.2.1 hs'.2.2.2.1 hs'.2.2.2.2 (by omega)
  rw [decide_eq_false h1] at hF1
  have hv := h
  have hv' := h'
  obtain ⟨_, _, _, _, e, ha, hb, hc, hd⟩ := h
  obtain ⟨_, _, _, _, e', ha', hb', hc', hd'⟩ := h'
  obtain ⟨Aa, Ca, rfl⟩ := frmA ha
  obtain ⟨Ab, Cb, rfl⟩ := frmA hb
  obtain ⟨Ac, Cc, rfl⟩ := frmA hc
  obtain ⟨Ad, Cd, rfl⟩ := frmA hd
  obtain ⟨Aa', Ca', rfl⟩ := frmA ha'
  obtain ⟨Ab', Cb', rfl⟩ := frmA hb'
  obtain ⟨Ac', Cc', rfl⟩ := frmA hc'
  obtain ⟨Ad', Cd', rfl⟩ := frmA hd'
  obtain ⟨rfl, rfl, rfl, rfl⟩ : c0 = .slice Aa A.length Ca ∧ c1 = .slice Ab B.length Cb ∧ c2 = .slice Ac C.length Cc ∧ c3 = .slice Ad D.length Cd := by simpa using e
  obtain ⟨rfl, rfl, rfl, rfl⟩ : c4 = .slice Aa' A'.length Ca' ∧ c5 = .slice Ab' B'.length Cb' ∧ c6 = .slice Ac' C'.length Cc' ∧ c7 = .slice Ad' D'.length Cd' := by simpa using e'
  clear e e'
  obtain ⟨W0, hW, hT, hB⟩ := box2 wS 23 46 #[.int .i64 lr, .int .i64 mu, .int .i64 wd, .bool nest] #[.slice Aa A.length Ca, .slice Ab B.length Cb, .slice Ac C.length Cc, .slice Ad D.length Cd, .slice Aa' A'.length Ca', .slice Ab' B'.length Cb', .slice Ac' C'.length Cc', .slice Ad' D'.length Cd']
  obtain ⟨g, hg⟩ : ∃ g, g = wS.heap.size := ⟨_, rfl⟩
  have hW' := Lib.hid (And.intro hW hg)
  rw [← hg] at hT
  have hgw : wS.heap.size ≤ g := by omega
  clear hW hg
  obtain ⟨hA, hL⟩ := hT
  have l0 := hL.cell 0
  have l1 := hL.cell 1
  have l2 := hL.cell 2
  have l3 := hL.cell 3
  have l4 := hL.cell 4
  have l5 := hL.cell 5
  have l6 := hL.cell 6
  have l7 := hL.cell 7
  go_enter Try.func5, Try.ntmps5
  go_wp2_with fail
  rw [← hW'.out.1, ← hW'.out.2]
  refine (hF1 _ _ (hv.below hB)).mono ?_
  rintro x w1 ⟨rfl, b1⟩
  have hL1 := hL.below b1 hL.lt
  have hA1 := hA.below b1 hA.lt
  have hB1 := hB.trans (b1.mono hB.size)
  clear l0 l1 l2 l3 l4 l5 l6 l7 hL hA hB b1 hW' W0
  have l4 := hL1.cell 4
  have l5 := hL1.cell 5
  have l6 := hL1.cell 6
  have l7 := hL1.cell 7
  have hAl := fun w => alive17_any w
  go_wp2_with fail
  refine (hAl _).mono ?_
  rintro x w3 ⟨rfl, b3⟩
  have hB9 := hB1.trans (b3.mono hB1.size)
  go_wp2
  go_ret
  exact ⟨rfl, hB9⟩
set_option maxRecDepth 100000 in
set_option maxHeartbeats 16000000 in
theorem MomApart_many2 (lr mu wd fr : Int) (nest : Bool) (c0 c1 c2 c3 c4 c5 c6 c7 : Value) (A B C D A' B' C' D' : List Int) (wS : World) (h : IsR wS (.agg #[c0, c1, c2, c3]) A B C D) (h' : IsR wS (.agg #[c4, c5, c6, c7]) A' B' C' D')
    (_ : In64 lr) (_ : In64 mu) (_ : In64 wd) (hs : Short A B C D) (hs' : Short A' B' C' D') (h1 : A.length + B.length + C.length + D.length ≤ 18) (h2 : ¬ A'.length + B'.length + C'.length + D'.length ≤ 18) :
    Calls Try.prog 5 #[.agg #[.int .i64 lr, .int .i64 mu, .int .i64 wd, .bool nest], .agg #[c0, c1, c2, c3, c4, c5, c6, c7], .int .i64 fr] wS fun e w' => e = .returned (.bool true) ∧ Below wS.heap.size wS w' := by
  obtain ⟨i0, hi, hz0, hz1, hz2⟩ := info_parts info_i64
  have hF1 := fun v w h => few17_any v A B C D 18 w h hs.2.1 hs.2.2.1 hs.2.2.2.1 hs.2.2.2.2 (by omega)
  have hF2 := fun v w h => few17_any v A' B' C' D' 18 w h hs'.2.1 hs'.2.2.1 hs'.2.2.2.1 hs'.2.2.2.2 (by omega)
  rw [decide_eq_true h1] at hF1
  rw [decide_eq_false h2] at hF2
  have hv := h
  have hv' := h'
  obtain ⟨_, _, _, _, e, ha, hb, hc, hd⟩ := h
  obtain ⟨_, _, _, _, e', ha', hb', hc', hd'⟩ := h'
  obtain ⟨Aa, Ca, rfl⟩ := frmA ha
  obtain ⟨Ab, Cb, rfl⟩ := frmA hb
  obtain ⟨Ac, Cc, rfl⟩ := frmA hc
  obtain ⟨Ad, Cd, rfl⟩ := frmA hd
  obtain ⟨Aa', Ca', rfl⟩ := frmA ha'
  obtain ⟨Ab', Cb', rfl⟩ := frmA hb'
  obtain ⟨Ac', Cc', rfl⟩ := frmA hc'
  obtain ⟨Ad', Cd', rfl⟩ := frmA hd'
  obtain ⟨rfl, rfl, rfl, rfl⟩ : c0 = .slice Aa A.length Ca ∧ c1 = .slice Ab B.length Cb ∧ c2 = .slice Ac C.length Cc ∧ c3 = .slice Ad D.length Cd := by simpa using e
  obtain ⟨rfl, rfl, rfl, rfl⟩ : c4 = .slice Aa' A'.length Ca' ∧ c5 = .slice Ab' B'.length Cb' ∧ c6 = .slice Ac' C'.length Cc' ∧ c7 = .slice Ad' D'.length Cd' := by simpa using e'
  clear e e'
  obtain ⟨W0, hW, hT, hB⟩ := box2 wS 23 46 #[.int .i64 lr, .int .i64 mu, .int .i64 wd, .bool nest] #[.slice Aa A.length Ca, .slice Ab B.length Cb, .slice Ac C.length Cc, .slice Ad D.length Cd, .slice Aa' A'.length Ca', .slice Ab' B'.length Cb', .slice Ac' C'.length Cc', .slice Ad' D'.length Cd']
  obtain ⟨g, hg⟩ : ∃ g, g = wS.heap.size := ⟨_, rfl⟩
  have hW' := Lib.hid (And.intro hW hg)
  rw [← hg] at hT
  have hgw : wS.heap.size ≤ g := by omega
  clear hW hg
  obtain ⟨hA, hL⟩ := hT
  have l0 := hL.cell 0
  have l1 := hL.cell 1
  have l2 := hL.cell 2
  have l3 := hL.cell 3
  have l4 := hL.cell 4
  have l5 := hL.cell 5
  have l6 := hL.cell 6
  have l7 := hL.cell 7
  go_enter Try.func5, Try.ntmps5
  go_wp2_with fail
  rw [← hW'.out.1, ← hW'.out.2]
  refine (hF1 _ _ (hv.below hB)).mono ?_
  rintro x w1 ⟨rfl, b1⟩
  have hL1 := hL.below b1 hL.lt
  have hA1 := hA.below b1 hA.lt
  have hB1 := hB.trans (b1.mono hB.size)
  clear l0 l1 l2 l3 l4 l5 l6 l7 hL hA hB b1 hW' W0
  have l4 := hL1.cell 4
  have l5 := hL1.cell 5
  have l6 := hL1.cell 6
  have l7 := hL1.cell 7
  go_wp2_with fail
  refine (hF2 _ _ (hv'.below hB1)).mono ?_
  rintro x w2 ⟨rfl, b1⟩
  have hL := hL1.below b1 hL1.lt
  have hA := hA1.below b1 hA1.lt
  have hB := hB1.trans (b1.mono hB1.size)
  have hAl := fun w => alive17_any w
  go_wp2_with fail
  refine (hAl _).mono ?_
  rintro x w3 ⟨rfl, b3⟩
  have hB9 := hB.trans (b3.mono hB.size)
  go_wp2
  go_ret
  exact ⟨rfl, hB9⟩
end Go.Proofs.Ytbnnonmkkkhepaa
