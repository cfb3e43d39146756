/- Append onto a row of the call's own: the source nil, empty or not; one new element. Turned from the guide's page of words for memory. -/
import Derived.Test.YtooonjcpdbbniaaGreatDoorBase
import Derived.Maps.AppendAt
import Derived.RegionTactic
import Derived.OwnWalk
import Derived.Deep.QuietTactic
import Derived.BigQuiet
import Derived.Outline
import Derived.LoopTactic
import Derived.StillTailTactics
import Derived.Test.YtooonjcpdbbniaaGreatDoorMath
import Derived.Laws.MakeOwn
import Derived.Laws.Rows
import Derived.ChangeKeysEq
import Derived.Laws.StructEq
namespace Go.Proofs.YtooonjcpdbbniaaGreatDoor
open Go.RowKit

section
variable {P : Program} (w : World)

theorem run_append_of_nil (base : Nat) (t ty e : TypeId) (i : TypeInfo) (size : Nat) (ht : P.underlying t = some (.slice e)) (hi : P.info? e = some i)
    (v : Value) (n : Nat) (xs : List Value) (hown : w.ownsRow base e size v n xs) (c : Nat) : (Builtin.append_ #[t, t] ty #[v, .slice none 0 c]).run P w = .ok v w := by
  rcases hown.2 with ⟨rfl, rfl⟩ | ⟨g, cap, cur, rfl, _, _, hnc, _⟩
  · simp [Builtin.append_, run_underlying ht, sizeOf, typeInfo, hi, Builtin.lenOf, Builtin.firstCells]
  · simp [Builtin.append_, run_underlying ht, sizeOf, typeInfo, hi, Builtin.lenOf, Builtin.firstCells, hnc, storeCells]

theorem run_append_any (base : Nat) (t ty e : TypeId) (i : TypeInfo) (z : Value) (size bytes : Nat) (ht : P.underlying t = some (.slice e)) (hi : P.info? e = some i) (hz : i.zero = some z)
    (hsize : i.size = size) (hby : i.bytes = bytes) (hzs : z.cells.size = size) (hsz : 0 < size)
    (v : Value) (n : Nat) (xs : List Value) (hown : w.ownsRow base e size v n xs)
    (B : Nat) (A : Option Addr) (m c : Nat) (news : List Value) (hr : Reads w B size A m news) (h1 : ∀ u ∈ news, u.oneCell' = true)
    (h63 : n + m ≤ maxLen) (hbytes : (n + m) * bytes ≤ 140737488355328) (hbase : base ≤ w.heap.size) :
    ∃ v' w', (Builtin.append_ #[t, t] ty #[v, .slice A m c]).run P w = .ok v' w' ∧ w'.ownsRow base e size v' (n + m) (xs ++ news) ∧ w.grownBy w' v.ownBlock ∧
      (v'.ownBlock = v.ownBlock ∨ v'.ownBlock = some w.heap.size) := by
  rcases A with _ | ad
  · have hm : m = 0 := by
      rcases Nat.eq_zero_or_pos m with h0 | h0
      · exact h0
      · obtain ⟨ad, h, _⟩ := hr.2 h0
        cases h
    subst hm
    have hn : news = [] := List.eq_nil_of_length_eq_zero (by simpa using hr.1)
    subst hn
    exact ⟨v, w, run_append_of_nil w base t ty e i size ht hi v n xs hown c, by simpa using hown, World.grownBy.refl w _, .inl rfl⟩
  · have hcells : ∀ j u, news[j]? = some u → w.cell? (ad.add j) = some u := by
      intro j u hu
      rcases Nat.eq_zero_or_pos m with h0 | h0
      · subst h0
        have hn : news = [] := List.eq_nil_of_length_eq_zero (by simpa using hr.1)
        subst hn
        simp at hu
      · obtain ⟨ad', h, _, hc⟩ := hr.2 h0
        injection h with h
        subst h
        exact hc j u hu
    obtain ⟨v', w', hrun, h2, h3, _, h5⟩ := run_append_own_at (P := P) w base t ty e i z size bytes ht hi hz hsize hby hzs hsz v n xs hown ad m c news hr.1 hcells h1 h63 hbytes hbase
    exact ⟨v', w', hrun, h2, h3, h5⟩

theorem wp_append_any {o : Oper} {a : Act} {K : Act → World → Prop} {Q : Exit → Act → World → Prop} (s x : Operand) (t : TypeId)
    (ho : o.op = .call { callee := .builtin .append, args := #[s, x], argTypes := #[t, t] })
    (base : Nat) (e : TypeId) (i : TypeInfo) (z : Value) (size bytes : Nat) (ht : P.underlying t = some (.slice e)) (hi : P.info? e = some i) (hz : i.zero = some z)
    (hsize : i.size = size) (hby : i.bytes = bytes) (hzs : z.cells.size = size) (hsz : 0 < size)
    (v : Value) (n : Nat) (xs : List Value) (hs : a.eval s = v) (hown : w.ownsRow base e size v n xs)
    (B : Nat) (A : Option Addr) (m c : Nat) (news : List Value) (hx : a.eval x = .slice A m c) (hr : Reads w B size A m news) (h1 : ∀ u ∈ news, u.oneCell' = true)
    (h63 : n + m ≤ maxLen) (hbytes : (n + m) * bytes ≤ 140737488355328) (hbase : base ≤ w.heap.size)
    (h : ∀ v' w', w'.ownsRow base e size v' (n + m) (xs ++ news) → w.grownBy w' v.ownBlock → (v'.ownBlock = v.ownBlock ∨ v'.ownBlock = some w.heap.size) → K (a.put o.dst v') w') : o.wp P a w K Q := by
  obtain ⟨v', w', hrun, h2, h3, h4⟩ := run_append_any (P := P) w base t o.type e i z size bytes ht hi hz hsize hby hzs hsz v n xs hown B A m c news hr h1 h63 hbytes hbase
  unfold Oper.wp execOp
  simp only [ho, resolve, invoke, builtin, Sem.run_bind, Sem.run_pure, Result.andThen_ok, List.map_toArray, List.map_cons, List.map_nil, hs, hx, hrun]
  exact h v' w' h2 h3 h4

theorem wpList_append_any {ops : Array Oper} {rest : List Oper} {o : Oper} {a : Act} {Q : Exit → Act → World → Prop} (hgd : o.guard = none) (s x : Operand) (t : TypeId)
    (ho : o.op = .call { callee := .builtin .append, args := #[s, x], argTypes := #[t, t] })
    (base : Nat) (e : TypeId) (i : TypeInfo) (z : Value) (size bytes : Nat) (ht : P.underlying t = some (.slice e)) (hi : P.info? e = some i) (hz : i.zero = some z)
    (hsize : i.size = size) (hby : i.bytes = bytes) (hzs : z.cells.size = size) (hsz : 0 < size)
    (v : Value) (n : Nat) (xs : List Value) (hs : a.eval s = v) (hown : w.ownsRow base e size v n xs)
    (B : Nat) (A : Option Addr) (m c : Nat) (news : List Value) (hx : a.eval x = .slice A m c) (hr : Reads w B size A m news) (h1 : ∀ u ∈ news, u.oneCell' = true)
    (h63 : n + m ≤ maxLen) (hbytes : (n + m) * bytes ≤ 140737488355328) (hbase : base ≤ w.heap.size)
    (h : ∀ v' w', w'.ownsRow base e size v' (n + m) (xs ++ news) → w.grownBy w' v.ownBlock → (v'.ownBlock = v.ownBlock ∨ v'.ownBlock = some w.heap.size) → wpList P ops Q rest (a.put o.dst v') w') : wpList P ops Q (o :: rest) a w :=
  wpList_plain hgd fun _ hK => wp_append_any w s x t ho base e i z size bytes ht hi hz hsize hby hzs hsz v n xs hs hown B A m c news hx hr h1 h63 hbytes hbase fun v' w' h2 h3 h4 => hK _ _ (h v' w' h2 h3 h4)

theorem step_append_any {ops : Array Oper} {o : Oper} {a : Act} {K : Act → World → Prop} {Q : Exit → Act → World → Prop} {E : Prop} (hgd : o.guard = none) (s x : Operand) (t : TypeId)
    (ho : o.op = .call { callee := .builtin .append, args := #[s, x], argTypes := #[t, t] })
    (base : Nat) (e : TypeId) (i : TypeInfo) (z : Value) (size bytes : Nat) (ht : P.underlying t = some (.slice e)) (hi : P.info? e = some i) (hz : i.zero = some z)
    (hsize : i.size = size) (hby : i.bytes = bytes) (hzs : z.cells.size = size) (hsz : 0 < size)
    (v : Value) (n : Nat) (xs : List Value) (hs : a.eval s = v) (hown : w.ownsRow base e size v n xs)
    (B : Nat) (A : Option Addr) (m c : Nat) (news : List Value) (hx : a.eval x = .slice A m c) (hr : Reads w B size A m news) (h1 : ∀ u ∈ news, u.oneCell' = true)
    (h63 : n + m ≤ maxLen) (hbytes : (n + m) * bytes ≤ 140737488355328) (hbase : base ≤ w.heap.size)
    (h : ∀ v' w', w'.ownsRow base e size v' (n + m) (xs ++ news) → w.grownBy w' v.ownBlock → (v'.ownBlock = v.ownBlock ∨ v'.ownBlock = some w.heap.size) → K (a.put o.dst v') w') :
    if Region.wanted o (yielded ops a.tmps) = true then Oper.wp P o a w K Q else E := by
  have hw : Region.wanted o (yielded ops a.tmps) = true := by simp [Region.wanted, hgd]
  rw [if_pos hw]
  exact wp_append_any w s x t ho base e i z size bytes ht hi hz hsize hby hzs hsz v n xs hs hown B A m c news hx hr h1 h63 hbytes hbase h
end

section
variable {w : World} {base : Nat} {e : TypeId} {v : Value} {n : Nat} {xs : List Value}
theorem own_form (h : w.ownsRow base e 1 v n xs) : ∃ (A : Option Addr) (c : Nat), v = .slice A n c ∧ n ≤ c ∧ c ≤ 9223372036854775807 ∧ Reads w w.heap.size 1 A n xs := by
  have h0 := h
  rcases h.2 with ⟨rfl, rfl⟩ | ⟨g, cap, cur, rfl, hg, hh, hn, hcap, hs, ht⟩
  · have : xs = [] := List.eq_nil_of_length_eq_zero (by simpa using h.1)
    subst this
    exact ⟨none, 0, rfl, Nat.le_refl _, by omega, Reads.none_⟩
  · exact ⟨_, _, rfl, hn, hcap, Reads.of_own h0⟩
theorem IsN.of_own {m : Nat} (h : w.ownsRow base e 1 v (limbs m).length (us (limbs m))) : IsN w v m := by
  obtain ⟨A, c, rfl, h1, h2, h3⟩ := own_form h
  exact ⟨A, c, rfl, h1, h2, limbs_bd _, h3⟩
theorem IsL.of_own {l : List Nat} (h : w.ownsRow base e 1 v l.length (us l)) (hb : Bd l) : IsL w v l := by
  obtain ⟨A, c, rfl, h1, h2, h3⟩ := own_form h
  exact ⟨A, c, rfl, h1, h2, hb, h3⟩
end
theorem info_u64 : (Tryz.prog.info? 44).map (fun i => (i.zero, i.size, i.bytes)) = some (some (.int .u64 0), 1, 8) := by kernel_rfl
theorem us_one (l : List Nat) : ∀ u ∈ us l, u.oneCell' = true := by
  intro u hu; obtain ⟨n, _, rfl⟩ := List.mem_map.1 hu; rfl
theorem us_snoc (l : List Nat) (x : Nat) : us (l ++ [x]) = us l ++ [.int .u64 (x : Int)] := by simp [us]

/-- append of one element that was just laid -/
theorem wpList_app1 {P : Program} {ops : Array Oper} {rest : List Oper} {o : Oper} {a : Act} {Q : Exit → Act → World → Prop} (w : World) (hgd : o.guard = none) (s x : Operand) (t e : TypeId) (z : Value) (bytes : Nat)
    (ho : o.op = .call { callee := .builtin .append, args := #[s, x], argTypes := #[t, t] }) (ht : P.underlying t = some (.slice e)) (hinfo : (P.info? e).map (fun i => (i.zero, i.size, i.bytes)) = some (some z, 1, bytes)) (hzs : z.cells.size = 1)
    (base : Nat) (u : Value) (hu : u.oneCell' = true) (v : Value) (n : Nat) (xs : List Value) (hs : a.eval s = v) (hown : w.ownsRow base e 1 v n xs) (ad : Addr) (hx : a.eval x = .slice (some ad) 1 1) (hc : w.cell? ad = some u)
    (h63 : (n + 1) * 8 ≤ 140737488355328) (hby : bytes ≤ 8) (hbase : base ≤ w.heap.size)
    (h : ∀ v' w', w'.ownsRow base e 1 v' (n + 1) (xs ++ [u]) → w.grownBy w' v.ownBlock → wpList P ops Q rest (a.put o.dst v') w') : wpList P ops Q (o :: rest) a w := by
  obtain ⟨i0, hi, hz0, hz1, hz2⟩ := info_parts hinfo
  refine wpList_append_any w hgd s x t ho base e i0 z 1 bytes ht hi hz0 hz1 hz2 hzs (by omega) v n xs hs hown (ad.block + 1) (some ad) 1 1 [u] hx ⟨rfl, fun _ => ⟨ad, rfl, by omega, ?_⟩⟩ (by simpa using hu) (by unfold maxLen; omega)
    (Nat.le_trans (Nat.mul_le_mul_left _ hby) h63) hbase (fun v' w' h1 h2 _ => h v' w' h1 h2)
  intro j y hj
  rcases j with _ | j
  · simp at hj; subst hj; simpa [Addr.add] using hc
  · simp at hj
end Go.Proofs.YtooonjcpdbbniaaGreatDoor
namespace Go.Proofs.YtooonjcpdbbniaaGreatDoor
open Go.RowKit
theorem info_i64 : (Tryz.prog.info? 2).map (fun i => (i.zero, i.size, i.bytes)) = some (some (.int .i64 0), 1, 8) := by kernel_rfl
/-- integers as cells -/
def is (l : List Int) : List Value := l.map (Value.int .i64)
/-- the integer at a place, nought behind the last -/
def iat (l : List Int) (i : Nat) : Int := l[i]?.getD 0
theorem is_len (l : List Int) : (is l).length = l.length := by simp [is]
theorem is_at (l : List Int) (j : Nat) (h : j < l.length) : (is l)[j]? = some (.int .i64 (iat l j)) := by simp [is, iat, h]
theorem is_snoc (l : List Int) (x : Int) : is (l ++ [x]) = is l ++ [.int .i64 x] := by simp [is]
theorem is_append (a b : List Int) : is (a ++ b) = is a ++ is b := by simp [is]
theorem is_one (l : List Int) : ∀ u ∈ is l, u.oneCell' = true := by
  intro u hu; obtain ⟨n, _, rfl⟩ := List.mem_map.1 hu; rfl
theorem iat_snoc_take (l : List Int) (k : Nat) (h : k < l.length) : l.take (k + 1) = l.take k ++ [iat l k] := by
  rw [List.take_succ_eq_append_getElem h]; simp [iat, h]
theorem iat_mem {l : List Int} {k : Nat} (h : k < l.length) : iat l k ∈ l := by
  unfold iat; rw [List.getElem?_eq_getElem h]; exact List.getElem_mem h
/-- the value is a slice that reads as these integers -/
def IsI (w : World) (v : Value) (l : List Int) : Prop :=
  ∃ (A : Option Addr) (c : Nat), v = .slice A l.length c ∧ l.length ≤ c ∧ c ≤ 9223372036854775807 ∧ Reads w w.heap.size 1 A l.length (is l)
section
variable {w w' : World} {v : Value} {l : List Int}
theorem IsI.below (h : IsI w v l) (hb : Below w.heap.size w w') : IsI w' v l := by
  obtain ⟨A, c, e, h1, h2, h3⟩ := h
  exact ⟨A, c, e, h1, h2, (h3.below hb).more hb.size⟩
theorem IsI.nil (w : World) : IsI w (.slice none 0 0) [] := ⟨none, 0, rfl, by simp, by omega, Reads.none_⟩
theorem is_cell {A : Option Addr} {k m B : Nat} (h : Reads w B 1 A m (is l)) (hk : k < m) : ∃ ad, A = some ad ∧ ad.block < B ∧ w.cell? (ad.add k) = some (.int .i64 (iat l k)) := by
  obtain ⟨ad, u, rfl, hb, hx, hc⟩ := h.at_ hk
  have hl : k < l.length := by have := h.1; rw [is_len] at this; omega
  rw [is_at _ _ hl] at hx
  obtain rfl := Option.some.inj hx
  exact ⟨ad, rfl, hb, hc⟩
theorem IsI.of_own {base : Nat} {e : TypeId} (h : w.ownsRow base e 1 v l.length (is l)) : IsI w v l := by
  obtain ⟨A, c, rfl, h1, h2, h3⟩ := own_form h
  exact ⟨A, c, rfl, h1, h2, h3⟩
theorem IsI.fresh (w : World) (t : TypeId) (l : List Int) (hl : l.length ≤ 9223372036854775807) : IsI (w.alloc (.cells (is l).toArray t)) (.slice (some ⟨w.heap.size, 0, none⟩) l.length l.length) l :=
  ⟨_, _, rfl, Nat.le_refl _, hl, by simpa using Reads.fresh w t (is l) l.length (is_len l).symm⟩
end
theorem new_cell1 (w : World) (t : TypeId) (u : Value) : (w.alloc (.cells #[u] t)).cell? ⟨w.heap.size, 0, none⟩ = some u := by rw [World.cell?_alloc_at _ _ _ _ rfl]; rfl
end Go.Proofs.YtooonjcpdbbniaaGreatDoor
namespace Go.Proofs.YtooonjcpdbbniaaGreatDoor
open Go.RowKit

set_option maxHeartbeats 400000 in
theorem right_any (v : Value) (l : List Nat) (w : World) (h : IsL w v l) :
    Calls Tryz.prog 26 #[v] w fun e w' => e = .returned (.bool (decide (l = [] ∨ lat l (l.length - 1) ≠ 0))) ∧ w = w' := by
  obtain ⟨A, c, rfl, hlc, hc, hbd, hr⟩ := h
  by_cases hl : l = []
  · subst hl
    go_enter Tryz.func26, Tryz.ntmps26
    go_wp2
    go_ret
    exact ⟨rfl, rfl⟩
  · have h0 : 0 < l.length := List.length_pos_iff.2 hl
    obtain ⟨ad, rfl, hb, hcell⟩ := us_cell hr (k := l.length - 1) (by omega)
    go_enter Tryz.func26, Tryz.ntmps26
    go_wp2
    go_ret
    have e : ((l.length : Int) == 0) = false := by simp [hl]
    exact ⟨ret_bool (by rw [e, nat_ne0]; simp [hl]), rfl⟩

set_option maxHeartbeats 400000 in
theorem bare_any (v : Value) (l : List Nat) (w : World) (h : IsL w v l) :
    Calls Tryz.prog 52 #[v] w fun e w' => ∃ v', e = .returned v' ∧ IsN w v' (num l) ∧ w = w' := by
  obtain ⟨A, c, rfl, hlc, hc, hbd, hr⟩ := h
  go_enter Tryz.func52, Tryz.ntmps52
  go_wp2
  go_loop [0] (fun a => ∃ k : Nat, k ≤ l.length ∧ a = .slice A k c ∧ Hid (num (l.take k) = num l)) (fun a => match a with | .slice _ k _ => k | _ => 0)
  case atStart => exact ⟨l.length, Nat.le_refl _, rfl, by rw [List.take_length]; exact Lib.hid rfl⟩
  case round =>
    obtain ⟨k, hk, rfl, hn⟩ := hrel
    have hcell : 0 < k → ∃ ad, A = some ad ∧ w.cell? (ad.add (k - 1)) = some (.int .u64 ((lat l (k - 1) : Nat) : Int)) := fun h => by
      obtain ⟨ad, e, _, hx⟩ := us_cell hr (k := k - 1) (by omega)
      exact ⟨ad, e, hx⟩
    by_cases h0 : 0 < k
    · obtain ⟨ad, rfl, hx⟩ := hcell h0
      clear hcell
      by_cases hz : lat l (k - 1) = 0
      · rw [hz] at hx
        go_wp2
        refine ⟨⟨k - 1, by omega, rfl, ?_⟩, by dsimp only; omega⟩
        rw [Hid] at hn
        exact Lib.hid ((num_take_pred h0 hz).trans hn)
      · have hz' : (((lat l (k - 1) : Nat) : Int) == 0) = false := by simp; omega
        go_wp2
        go_ret
        refine ⟨_, rfl, ⟨some ad, c, ?_, ?_, hc, limbs_bd _, ?_⟩, rfl⟩
        all_goals rw [limbs_of_take hbd hn hk (.inr hz)]
        · simp [hk]
        · simp; omega
        · rw [List.length_take, Nat.min_eq_left hk]; exact hr.shorter hk
    · obtain rfl : k = 0 := by omega
      go_wp2
      go_ret
      have e : num l = 0 := by rw [← hn]; rfl
      refine ⟨_, rfl, ⟨A, c, ?_, ?_, hc, limbs_bd _, ?_⟩, rfl⟩
      all_goals rw [e, limbs_zero]
      · rfl
      · simp
      · exact Reads.none_

set_option maxHeartbeats 400000 in
theorem of_any (n : Nat) (hn : n < W64) (w : World) :
    Calls Tryz.prog 30 #[.int .u64 n] w fun e w' => ∃ v', e = .returned v' ∧ IsN w' v' n ∧ Below w.heap.size w w' := by
  go_enter Tryz.func30, Tryz.ntmps30
  go_wp2_with fail
  refine (bare_any _ [n] _ (IsL.fresh w _ [n] (Bd.cons hn Bd.nil) (by simp))).mono ?_
  rintro e w' ⟨v', rfl, hv, rfl⟩
  go_wp2
  go_ret
  exact ⟨_, rfl, by rwa [num_single] at hv, (Below.refl _ _).alloc (Nat.le_refl _) _⟩

set_option maxHeartbeats 400000 in
theorem small_any (v : Value) (l : List Nat) (w : World) (h : IsL w v l) :
    Calls Tryz.prog 33 #[v] w fun e w' => e = .returned (if l.length ≤ 1 then .tuple #[.int .u64 (lat l 0 : Nat), .bool true] else .tuple #[.int .u64 0, .bool false]) ∧ w = w' := by
  obtain ⟨A, c, rfl, hlc, hc, hbd, hr⟩ := h
  rcases l with _ | ⟨x, _ | ⟨y, r⟩⟩
  · go_enter Tryz.func33, Tryz.ntmps33
    go_wp2
    go_ret2
    exact ⟨rfl, rfl⟩
  · obtain ⟨ad, rfl, hb, hcell⟩ := us_cell0 hr (by simp)
    go_enter Tryz.func33, Tryz.ntmps33
    go_wp2
    go_ret2
    exact ⟨rfl, rfl⟩
  · have e0 : (((r.length + 1 + 1 : Nat) : Int) == 0) = false := by rw [beq_eq_false_iff_ne]; omega
    have e1 : (((r.length + 1 + 1 : Nat) : Int) == 1) = false := by rw [beq_eq_false_iff_ne]; omega
    go_enter Tryz.func33, Tryz.ntmps33
    go_wp2
    go_ret2
    exact ⟨by simp, rfl⟩

theorem compare_int (a b : Int) (w : World) :
    Calls Tryz.prog 61 #[.int .i64 a, .int .i64 b] w fun e w' => e = .returned (.int .i64 (cmpI a b)) ∧ w = w' := by
  rcases Int.lt_trichotomy a b with h | rfl | h
  · go_enter Tryz.func61, Tryz.ntmps61
    go_wp2
    go_ret
    exact ⟨ret_int (by simp [cmpI, h]), rfl⟩
  · go_enter Tryz.func61, Tryz.ntmps61
    go_wp2
    go_ret
    exact ⟨ret_int (by simp [cmpI]), rfl⟩
  · have h' : ¬ a < b := by omega
    go_enter Tryz.func61, Tryz.ntmps61
    go_wp2
    go_ret
    exact ⟨ret_int (by simp [cmpI, h, h']), rfl⟩
theorem compare_u64 (a b : Int) (w : World) :
    Calls Tryz.prog 63 #[.int .u64 a, .int .u64 b] w fun e w' => e = .returned (.int .i64 (cmpI a b)) ∧ w = w' := by
  rcases Int.lt_trichotomy a b with h | rfl | h
  · go_enter Tryz.func63, Tryz.ntmps63
    go_wp2
    go_ret
    exact ⟨ret_int (by simp [cmpI, h]), rfl⟩
  · go_enter Tryz.func63, Tryz.ntmps63
    go_wp2
    go_ret
    exact ⟨ret_int (by simp [cmpI]), rfl⟩
  · have h' : ¬ a < b := by omega
    go_enter Tryz.func63, Tryz.ntmps63
    go_wp2
    go_ret
    exact ⟨ret_int (by simp [cmpI, h, h']), rfl⟩
end Go.Proofs.YtooonjcpdbbniaaGreatDoor
namespace Go.Proofs.YtooonjcpdbbniaaGreatDoor
open Go.RowKit

set_option maxHeartbeats 400000 in
theorem rright_any (v : Value) (l : List Nat) (w : World) (h : IsL w v l) :
    Calls Tryz.prog 27 #[v] w fun e w' => e = .returned (.bool (decide (l = [] ∨ lat l (l.length - 1) ≠ 0))) ∧ w = w' := by
  obtain ⟨A, c, rfl, hlc, hc, hbd, hr⟩ := h
  by_cases hl : l = []
  · subst hl
    go_enter Tryz.func27, Tryz.ntmps27
    go_wp2
    go_ret
    exact ⟨rfl, rfl⟩
  · have h0 : 0 < l.length := List.length_pos_iff.2 hl
    obtain ⟨ad, rfl, hb, hcell⟩ := us_cell hr (k := l.length - 1) (by omega)
    go_enter Tryz.func27, Tryz.ntmps27
    go_wp2
    go_ret
    have e : ((l.length : Int) == 0) = false := by simp [hl]
    exact ⟨ret_bool (by rw [e, nat_ne0]; simp [hl]), rfl⟩

set_option maxHeartbeats 400000 in
theorem rsmall_any (v : Value) (l : List Nat) (w : World) (h : IsL w v l) :
    Calls Tryz.prog 34 #[v] w fun e w' => e = .returned (if l.length ≤ 1 then .tuple #[.int .u64 (lat l 0 : Nat), .bool true] else .tuple #[.int .u64 0, .bool false]) ∧ w = w' := by
  obtain ⟨A, c, rfl, hlc, hc, hbd, hr⟩ := h
  rcases l with _ | ⟨x, _ | ⟨y, r⟩⟩
  · go_enter Tryz.func34, Tryz.ntmps34
    go_wp2
    go_ret2
    exact ⟨rfl, rfl⟩
  · obtain ⟨ad, rfl, hb, hcell⟩ := us_cell0 hr (by simp)
    go_enter Tryz.func34, Tryz.ntmps34
    go_wp2
    go_ret2
    exact ⟨rfl, rfl⟩
  · have e0 : (((r.length + 1 + 1 : Nat) : Int) == 0) = false := by rw [beq_eq_false_iff_ne]; omega
    go_enter Tryz.func34, Tryz.ntmps34
    go_wp2
    go_ret2
    exact ⟨by simp, rfl⟩

theorem rat_any (v : Value) (l : List Nat) (i : Nat) (w : World) (h : IsL w v l) :
    Calls Tryz.prog 58 #[v, .int .i64 i] w fun e w' => e = .returned (.int .u64 (lat l i : Nat)) ∧ w = w' := by
  obtain ⟨A, c, rfl, hlc, hc, hbd, hr⟩ := h
  by_cases h : i < l.length
  · obtain ⟨ad, rfl, hb, hc⟩ := us_cell hr h
    go_enter Tryz.func58, Tryz.ntmps58
    go_wp2
    go_ret
    exact ⟨rfl, rfl⟩
  · rw [lat_ge (by omega)]
    go_enter Tryz.func58, Tryz.ntmps58
    go_wp2
    go_ret
    exact ⟨rfl, rfl⟩

set_option maxHeartbeats 400000 in
theorem rcmp_any (va vb : Value) (a b : List Nat) (w : World) (ha : IsL w va a) (hb : IsL w vb b) :
    Calls Tryz.prog 38 #[va, vb] w fun e w' => e = .returned (.int .i64 (cmpL a b)) ∧ ∃ n, w' = w.drewN n := by
  obtain ⟨A, ca, rfl, hac, hca, hba, hra⟩ := ha
  obtain ⟨B, cb, rfl, hbc, hcb, hbb, hrb⟩ := hb
  by_cases hlen : a.length = b.length
  · have e1 : ((a.length : Int) != (b.length : Int)) = false := by simp [hlen]
    have hl := Lib.hid hlen
    clear hlen
    go_enter Tryz.func38, Tryz.ntmps38
    go_wp2
    go_loopw [5] (fun i wr => ∃ (m n : Nat), m ≤ a.length ∧ i = .int .i64 ((m : Int) - 1) ∧ Hid (a.drop m = b.drop m) ∧ wr = w.drewN n) (fun i _ => (intOf i + 1).toNat)
    case atStart => exact ⟨a.length, 0, Nat.le_refl _, rfl, Lib.hid (by rw [List.drop_length, hl.out, List.drop_length]), rfl⟩
    case round =>
      obtain ⟨m, n, hm, rfl, hd, rfl⟩ := hrel
      have hmb : m ≤ b.length := by have := hl.out; omega
      by_cases h0 : 0 < m
      · obtain ⟨ad, rfl, _, hx⟩ := us_cell hra (k := m - 1) (by omega)
        obtain ⟨bd, rfl, _, hy⟩ := us_cell hrb (k := m - 1) (by omega)
        have et : a.drop (m - 1 + 1) = b.drop (m - 1 + 1) := by rw [Nat.sub_add_cancel h0]; exact hd.out
        rcases Nat.lt_trichotomy (lat a (m - 1)) (lat b (m - 1)) with h | h | h
        · have hc := num_lt_of_top hba hbb (m - 1) (by omega) hl.out et h
          have hcc : Hid (cmpL a b = -1) := by rw [Hid, cmpL, if_pos hl.out, cmpI_lt (by omega)]
          clear hc et
          go_wp2
          go_quiet (fail)
          go_wp2
          go_ret
          exact ⟨ret_int hcc.out.symm, _, by first | rfl | (simp only [World.drewN_drewN]; rfl)⟩
        · have hd' : Hid (a.drop (m - 1) = b.drop (m - 1)) := by rw [Hid, drop_lat a _ (by omega), drop_lat b _ (by omega), et, h]
          rw [h] at hx
          clear et h
          go_wp2
          go_quiet (fail)
          go_wp2
          go_quiet (fail)
          go_wp2
          exact ⟨⟨m - 1, _, by omega, by go_num, hd', by first | rfl | (simp only [World.drewN_drewN]; rfl)⟩, by simp [intOf]; omega⟩
        · have hc := num_lt_of_top hbb hba (m - 1) (by omega) hl.out.symm et.symm h
          have hcc : Hid (cmpL a b = 1) := by rw [Hid, cmpL, if_pos hl.out, cmpI_gt (by omega)]
          clear hc et
          have h' : lat b (m - 1) ≤ lat a (m - 1) := by omega
          go_wp2
          go_quiet (fail)
          go_wp2
          go_quiet (fail)
          go_wp2
          go_ret
          exact ⟨ret_int hcc.out.symm, _, by first | rfl | (simp only [World.drewN_drewN]; rfl)⟩
      · obtain rfl : m = 0 := by omega
        go_wp2
        go_ret
        have : a = b := by simpa using hd.out
        exact ⟨ret_int (by rw [this]; simp [cmpL, cmpI]), _, rfl⟩
  · have e1 : ((a.length : Int) != (b.length : Int)) = true := by simp; omega
    have e0 : cmpL a b = cmpI a.length b.length := by rw [cmpL, if_neg hlen]
    rw [e0]
    clear e0
    rcases Nat.lt_or_gt_of_ne hlen with h | h
    · rw [cmpI_lt (by omega)]
      go_enter Tryz.func38, Tryz.ntmps38
      go_wp2
      go_ret
      exact ⟨rfl, 0, rfl⟩
    · rw [cmpI_gt (by omega)]
      have h' : b.length ≤ a.length := by omega
      go_enter Tryz.func38, Tryz.ntmps38
      go_wp2
      go_ret
      exact ⟨rfl, 0, rfl⟩

set_option maxHeartbeats 400000 in
theorem rbare_f (v : Value) (l : List Nat) (w : World) (h : IsL w v l) (hl : l.length ≤ 10000000) :
    Calls Tryz.prog 53 #[v] w fun e w' => ∃ v', e = .returned v' ∧ IsN w' v' (num l) ∧ Below w.heap.size w w' ∧ Fresh w.heap.size v' := by
  obtain ⟨A, c, rfl, hlc, hc, hbd, hr⟩ := h
  obtain ⟨i0, hi, hz0, hz1, hz2⟩ := info_parts info_u64
  go_enter Tryz.func53, Tryz.ntmps53
  go_wp2
  go_loop [3] (fun a => ∃ k : Nat, k ≤ l.length ∧ a = .int .i64 k ∧ Hid (num (l.take k) = num l)) (fun a => (intOf a).toNat)
  case atStart => exact ⟨l.length, Nat.le_refl _, rfl, by rw [List.take_length]; exact Lib.hid rfl⟩
  case round =>
    obtain ⟨k, hk, rfl, hn⟩ := hrel
    have fin : (k = 0 ∨ lat l (k - 1) ≠ 0) → limbs (num l) = l.take k := fun h => limbs_of_take hbd hn.out hk h
    by_cases h0 : 0 < k
    · obtain ⟨ad, rfl, _, hx⟩ := us_cell hr (k := k - 1) (by omega)
      by_cases hz : lat l (k - 1) = 0
      · rw [hz] at hx
        go_wp2
        go_round
        case rel => exact ⟨k - 1, by omega, by go_num, Lib.hid ((num_take_pred h0 hz).trans hn.out)⟩
        case measure => simp [intOf]; omega
      · have hz' : (((lat l (k - 1) : Nat) : Int) == 0) = false := by simp; omega
        have fin' := Lib.hid (fin (.inr hz))
        clear fin
        have hown := World.ownsRow_lit w #[] 0 (base := w.heap.size) (e := 44) (size := 1) (Nat.le_refl _) (by unfold maxLen; omega) rfl
        go_wp2_with (at_builtin; refine wpList_append_any _ rfl (.tmp 18) (.tmp 21) _ rfl w.heap.size 44 i0 _ 1 8 Tryz.underlying23 hi hz0 hz1 hz2 rfl (by omega) _ 0 [] rfl hown w.heap.size (some ad) k c (us (l.take k)) rfl ((hr.shorter hk).alloc (Nat.le_refl _) _) (us_one _) (by unfold maxLen; omega) (by omega) (by simp) ?_; intro v' w' hown' hgrow hat)
        go_ret
        refine ⟨_, rfl, ?_, ((Below.refl _ w).alloc (Nat.le_refl _) _).grown hgrow (by simp) (fun g e => by cases e; exact Nat.le_refl _), Fresh.of_own hown'⟩
        rw [Nat.zero_add, List.nil_append] at hown'
        exact IsN.of_own (by rw [fin'.out]; simpa [hk] using hown')
    · obtain rfl : k = 0 := by omega
      have fin' := Lib.hid (fin (.inl rfl))
      clear fin
      have hown := World.ownsRow_lit w #[] 0 (base := w.heap.size) (e := 44) (size := 1) (Nat.le_refl _) (by unfold maxLen; omega) rfl
      go_wp2_with (at_builtin; refine wpList_append_any _ rfl (.tmp 18) (.tmp 21) _ rfl w.heap.size 44 i0 _ 1 8 Tryz.underlying23 hi hz0 hz1 hz2 rfl (by omega) _ 0 [] rfl hown w.heap.size A 0 c (us (l.take 0)) rfl ((hr.shorter hk).alloc (Nat.le_refl _) _) (us_one _) (by unfold maxLen; omega) (by omega) (by simp) ?_; intro v' w' hown' hgrow hat)
      go_ret
      refine ⟨_, rfl, ?_, ((Below.refl _ w).alloc (Nat.le_refl _) _).grown hgrow (by simp) (fun g e => by cases e; exact Nat.le_refl _), Fresh.of_own hown'⟩
      exact IsN.of_own (by rw [fin'.out]; simpa using hown')
theorem rbare_any (v : Value) (l : List Nat) (w : World) (h : IsL w v l) (hl : l.length ≤ 10000000) :
    Calls Tryz.prog 53 #[v] w fun e w' => ∃ v', e = .returned v' ∧ IsN w' v' (num l) ∧ Below w.heap.size w w' :=
  (rbare_f v l w h hl).mono fun _ _ ⟨v', h1, h2, h3, _⟩ => ⟨v', h1, h2, h3⟩
end Go.Proofs.YtooonjcpdbbniaaGreatDoor
namespace Go.Proofs.YtooonjcpdbbniaaGreatDoor
open Go.RowKit
def Arr (w : World) (g : Nat) (l : List Nat) : Prop := w.heap[g]? = some (.cells (us l).toArray 44 (0, 0))
section
variable {w w' : World} {g : Nat} {l : List Nat}
theorem Arr.lt (h : Arr w g l) : g < w.heap.size := (Array.getElem?_eq_some_iff.1 h).1
theorem Arr.cell (h : Arr w g l) {i : Nat} (hi : i < l.length) : w.cell? ⟨g, i, none⟩ = some (.int .u64 (lat l i : Nat)) := by
  rw [World.cell?]; simp [show w.heap[g]? = _ from h, us, lat, hi]
theorem Arr.frozen (h : Arr w g l) (i : Nat) : w.frozen? ⟨g, i, none⟩ = false := by simp [World.frozen?, show w.heap[g]? = _ from h]
theorem Arr.set (h : Arr w g l) (i x : Nat) : Arr (w.setCell ⟨g, i, none⟩ (.int .u64 (x : Int))) g (l.set i x) := by
  unfold Arr at h ⊢
  simp [World.setCell, Array.getElem?_modify, h, us]
theorem Arr.below {B : Nat} (h : Arr w g l) (hb : Below B w w') (hg : g < B) : Arr w' g l := (hb.block g hg).trans h
theorem Arr.alloc (h : Arr w g l) (o : Obj) : Arr (w.alloc o) g l := (Below.heap_alloc w o g h.lt).trans h
theorem Arr.drew (h : Arr w g l) : Arr w.drew g l := h
theorem Arr.drewN (h : Arr w g l) (n : Nat) : Arr (w.drewN n) g l := h
theorem Arr.new (w : World) (l : List Nat) : Arr (w.alloc (.cells (us l).toArray 44)) w.heap.size l := heap_alloc_new w _
theorem Arr.isL (h : Arr w g l) (hb : Bd l) (hl : l.length ≤ 9223372036854775807) : IsL w (.slice (some ⟨g, 0, none⟩) l.length l.length) l :=
  ⟨_, _, rfl, Nat.le_refl _, hl, hb, by rw [us_len]; omega, fun _ => ⟨_, rfl, h.lt, fun j u hu => by
    have e : Addr.add ⟨g, 0, none⟩ j = ⟨g, j, none⟩ := by unfold Addr.add; split <;> simp_all
    have hj : j < l.length := by
      rcases Nat.lt_or_ge j l.length with h' | h'
      · exact h'
      · rw [List.getElem?_eq_none (by rw [us_len]; exact h')] at hu; cases hu
    rw [e, h.cell hj]
    rw [us_at l j hj] at hu
    exact hu⟩⟩
end
theorem madeCells_us (n : Nat) : madeCells (Value.int .u64 0).cells n = (us (zeros n)).toArray := by
  have e : ∀ i : Nat, (Value.int .u64 0).cells[i % (Value.int .u64 0).cells.size]! = .int .u64 0 := fun i => by simp [Value.cells, Nat.mod_one]
  unfold madeCells
  rw [show (fun x => (Value.int .u64 0).cells[x % (Value.int .u64 0).cells.size]!) = fun _ => Value.int .u64 0 from funext e]
  apply Array.ext
  · simp [us, zeros]
  · intro i h1 h2; simp [us, zeros]
theorem run_make_u64 (t : TypeId) (ht : Tryz.prog.underlying t = some (.slice 44)) (n : Nat) (k : Int) (hk : k = n) (hn : n ≤ 10000000) (W : World) :
    (Instr.makeSlice t (.int .i64 k) (.int .i64 k)).run Tryz.prog W = .ok (.slice (some ⟨W.heap.size, 0, none⟩) n n) (W.alloc (.cells (us (zeros n)).toArray 44)) := by
  obtain ⟨i0, hi, hz0, hz1, hz2⟩ := info_parts info_u64
  subst hk
  rw [run_make W t 44 i0 (.int .u64 0) ht hi hz0 .i64 .i64 n n (by omega) (by omega) (by rw [hz2]; omega) (by omega)]
  simp only [Int.toNat_natCast, hz1, Nat.mul_one, madeCells_us]
end Go.Proofs.YtooonjcpdbbniaaGreatDoor
namespace Go.Proofs.YtooonjcpdbbniaaGreatDoor
open Go.RowKit Go.ChangeShapes
theorem eqi_u64 (d : Nat) (a b : Int) (W : World) : (Op.equalIn (d + 1) 44 (.int .u64 a) (.int .u64 b)).run Tryz.prog W = .ok (a == b) W := by
  exact run_equalIn_int (P := Tryz.prog) W d 44 .u64 .u64 a b Tryz.underlying44
end Go.Proofs.YtooonjcpdbbniaaGreatDoor
