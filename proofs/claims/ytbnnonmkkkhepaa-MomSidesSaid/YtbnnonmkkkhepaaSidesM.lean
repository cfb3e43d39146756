/- Momentum's step the other way round, plainly. No program in sight but for the words of the step. -/
import Derived.Test.YtbnnonmkkkhepaaHas
namespace Go.Proofs.Ytbnnonmkkkhepaa

theorem rne_zero (d : Nat) (hd : 0 < d) : rne 0 d = 0 := by unfold rne; rw [if_neg (by simp)]; simp
theorem mulZ_neg (a b : Int) (f : Nat) : mulZ a (-b) f = -mulZ a b f := by
  unfold mulZ
  rw [Int.natAbs_neg]
  by_cases hb : b = 0
  · subst hb
    simp [rne_zero _ (Nat.pow_pos (by omega : 0 < 2)), sided]
  · have h : decide (-b < 0) = !decide (b < 0) := by rw [Bool.eq_iff_iff]; simp; omega
    rw [h]
    generalize rne (a.natAbs * b.natAbs) (2 ^ f) = n
    cases decide (a < 0) <;> cases decide (b < 0) <;> simp [sided]
theorem fitE_zero {z : Int} (h : fitE z = 0) : fitV z = z ∧ -9223372036854775808 ≤ z ∧ z ≤ 9223372036854775807 := by
  unfold fitE at h
  by_cases hz : -9223372036854775808 ≤ z ∧ z ≤ 9223372036854775807
  · exact ⟨(fit_in hz).1, hz⟩
  · rw [if_neg hz] at h; omega
theorem joinE_zero {e x : Int} (h : joinE e x = 0) : e = 0 ∧ x = 0 := by
  unfold joinE at h; split at h <;> simp_all
theorem stE_parts {lr mu wd : Int} {nest : Bool} {f : Nat} {w v g : Int} (h : stE lr mu wd nest f w v g = 0) :
    stD wd f w g = g + mulZ wd w f ∧ stV mu f v (stD wd f w g) = mulZ mu v f + stD wd f w g ∧
    (nest = true → stU nest mu f (stD wd f w g) (stV mu f v (stD wd f w g)) = stD wd f w g + mulZ mu (stV mu f v (stD wd f w g)) f) ∧ (nest = false → stU nest mu f (stD wd f w g) (stV mu f v (stD wd f w g)) = stV mu f v (stD wd f w g)) ∧
    stW lr f w (stU nest mu f (stD wd f w g) (stV mu f v (stD wd f w g))) = w - mulZ lr (stU nest mu f (stD wd f w g) (stV mu f v (stD wd f w g))) f := by
  unfold stE at h
  dsimp only at h
  obtain ⟨e1, h⟩ := joinE_zero h
  obtain ⟨e2, h⟩ := joinE_zero h
  obtain ⟨e3, h⟩ := joinE_zero h
  obtain ⟨e4, h⟩ := joinE_zero h
  obtain ⟨e5, h⟩ := joinE_zero h
  obtain ⟨e6, e7⟩ := joinE_zero h
  have k1 := (fitE_zero e1).1
  have k2 := (fitE_zero e2).1
  have k3 := (fitE_zero e3).1
  have k4 := (fitE_zero e4).1
  have k6 := (fitE_zero e6).1
  have k7 := (fitE_zero e7).1
  refine ⟨?_, ?_, ?_, ?_, ?_⟩
  · unfold stD; rw [k2, k1]
  · rw [stV, k4, k3]
  · intro hn; subst hn
    simp only [if_true] at e5
    obtain ⟨e8, e9⟩ := joinE_zero e5
    rw [stU, if_pos rfl, (fitE_zero e9).1, (fitE_zero e8).1]
  · intro hn; subst hn; rw [stU, if_neg (by simp)]
  · rw [stW, k7, k6]
theorem place_neg {lr mu wd : Int} {nest : Bool} {f : Nat} {w v g : Int} (h : stE lr mu wd nest f w v g = 0) (h' : stE lr mu wd nest f (-w) (-v) (-g) = 0) :
    stV mu f (-v) (stD wd f (-w) (-g)) = -stV mu f v (stD wd f w g) ∧
    stW lr f (-w) (stU nest mu f (stD wd f (-w) (-g)) (stV mu f (-v) (stD wd f (-w) (-g)))) = -stW lr f w (stU nest mu f (stD wd f w g) (stV mu f v (stD wd f w g))) := by
  obtain ⟨a1, a2, a3, a4, a5⟩ := stE_parts h
  obtain ⟨b1, b2, b3, b4, b5⟩ := stE_parts h'
  have d : stD wd f (-w) (-g) = -stD wd f w g := by rw [a1, b1, mulZ_neg]; omega
  rw [d] at b2 b3 b4 b5 ⊢
  have vv : stV mu f (-v) (-stD wd f w g) = -stV mu f v (stD wd f w g) := by rw [b2, a2, mulZ_neg]; omega
  rw [vv] at b3 b4 b5 ⊢
  refine ⟨rfl, ?_⟩
  have uu : stU nest mu f (-stD wd f w g) (-stV mu f v (stD wd f w g)) = -stU nest mu f (stD wd f w g) (stV mu f v (stD wd f w g)) := by
    cases nest
    · rw [b4 rfl, a4 rfl]
    · rw [b3 rfl, a3 rfl, mulZ_neg]; omega
  rw [uu] at b5 ⊢
  rw [b5, a5, mulZ_neg]; omega
theorem ng_of {x : Int} (h : In64 x) (hl : x ≠ least) : ng x = -x := by
  unfold ng In64 least at *
  rw [Go.IntKind.wrap_i64]; omega
theorem iat_ngs (l : List Int) (i : Nat) (h : i < l.length) : iat (ngs l) i = ng (iat l i) := by
  unfold iat ngs; simp [h]
theorem errTo_zero {lr mu wd : Int} {nest : Bool} {f : Nat} {W M G : List Int} : ∀ {n : Nat}, errTo lr mu wd nest f W M G n = 0 → ∀ i, i < n → stE lr mu wd nest f (iat W i) (iat M i) (iat G i) = 0
  | 0, _, i, hi => by omega
  | n + 1, h, i, hi => by
    obtain ⟨h1, h2⟩ := joinE_zero (show joinE (errTo lr mu wd nest f W M G n) (stE lr mu wd nest f (iat W n) (iat M n) (iat G n)) = 0 from h)
    rcases Nat.lt_or_ge i n with hlt | hge
    · exact errTo_zero h1 i hlt
    · obtain rfl : i = n := by omega
      exact h2
theorem stErr_zero {lr mu wd : Int} {nest : Bool} {f : Int} {W M G : List Int} (h : stErr lr mu wd nest f W M G = 0) : rightM lr mu wd f = true ∧ M.length = W.length ∧ G.length = W.length ∧ errTo lr mu wd nest f.toNat W M G W.length = 0 := by
  unfold stErr at h
  by_cases h1 : rightM lr mu wd f = true
  · rw [if_pos h1] at h
    by_cases h2 : M.length = W.length ∧ G.length = W.length
    · rw [if_pos h2] at h
      by_cases h3 : errTo lr mu wd nest f.toNat W M G W.length = 0
      · exact ⟨h1, h2.1, h2.2, h3⟩
      · rw [if_neg h3] at h; omega
    · rw [if_neg h2] at h; omega
  · rw [if_neg h1] at h; omega
theorem not_least {l : List Int} {i : Nat} (h : least ∉ l) (hi : i < l.length) : iat l i ≠ least := fun e => h (by rw [← e]; exact iat_mem hi)
theorem fitV_In (z : Int) : In64 (fitV z) := fitV_in z
/-- SIDES, for whole rows -/
theorem sides_ok {lr mu wd : Int} {nest : Bool} {f : Int} {W M G : List Int} (iW : AllIn W) (iM : AllIn M) (iG : AllIn G)
    (b1 : hasL (W ++ M ++ G) = false) (b2 : hasL (stWs lr mu wd nest f W M G ++ stMs lr mu wd nest f W M G ++ []) = false)
    (e1 : stErr lr mu wd nest f W M G = 0) (e2 : stErr lr mu wd nest f (ngs W) (ngs M) (ngs G) = 0) :
    stWs lr mu wd nest f (ngs W) (ngs M) (ngs G) = ngs (stWs lr mu wd nest f W M G) ∧ stMs lr mu wd nest f (ngs W) (ngs M) (ngs G) = ngs (stMs lr mu wd nest f W M G) := by
  have z1 := of_decide_eq_false b1
  have z2 := of_decide_eq_false b2
  simp only [List.append_nil, List.mem_append, not_or] at z1 z2
  obtain ⟨r1, lm, lg, t1⟩ := stErr_zero e1
  obtain ⟨_, _, _, t2⟩ := stErr_zero e2
  rw [ngs_len] at t2
  unfold stWs stMs at *
  rw [if_pos e1] at z2 ⊢
  rw [if_pos e1] at z2
  rw [if_pos e2, if_pos e1, if_pos e2, ngs_len]
  have key : ∀ i, i < W.length → plV mu wd f.toNat (ngs W) (ngs M) (ngs G) i = ng (plV mu wd f.toNat W M G i) ∧ plW lr mu wd nest f.toNat (ngs W) (ngs M) (ngs G) i = ng (plW lr mu wd nest f.toNat W M G i) := by
    intro i hi
    have s1 := errTo_zero t1 i hi
    have s2 := errTo_zero t2 i hi
    rw [iat_ngs _ _ hi, iat_ngs _ _ (by omega), iat_ngs _ _ (by omega), ng_of (iW i) (not_least z1.1.1 hi), ng_of (iM i) (not_least z1.1.2 (by omega)), ng_of (iG i) (not_least z1.2 (by omega))] at s2
    obtain ⟨p1, p2⟩ := place_neg s1 s2
    have q1 : plV mu wd f.toNat W M G i ≠ least := fun e => z2.2 (by rw [← e]; exact List.mem_map.2 ⟨i, by simpa using hi, rfl⟩)
    have q2 : plW lr mu wd nest f.toNat W M G i ≠ least := fun e => z2.1 (by rw [← e]; exact List.mem_map.2 ⟨i, by simpa using hi, rfl⟩)
    have n1 := ng_of (show In64 (plV mu wd f.toNat W M G i) from fitV_in _) q1
    have n2 := ng_of (show In64 (plW lr mu wd nest f.toNat W M G i) from fitV_in _) q2
    rw [n1, n2]
    unfold plV plW
    rw [iat_ngs _ _ hi, iat_ngs _ _ (by omega), iat_ngs _ _ (by omega), ng_of (iW i) (not_least z1.1.1 hi), ng_of (iM i) (not_least z1.1.2 (by omega)), ng_of (iG i) (not_least z1.2 (by omega))]
    exact ⟨p1, p2⟩
  unfold ngs at *
  rw [List.map_map, List.map_map]
  exact ⟨List.map_congr_left fun i hi => (key i (by simpa using hi)).2, List.map_congr_left fun i hi => (key i (by simpa using hi)).1⟩
/-- why there is no step, either way round -/
theorem sides_err (lr mu wd : Int) (nest : Bool) (f : Int) (W M G : List Int) (e1 e2 : Int) (h1 : e1 = stErr lr mu wd nest f W M G) (h2 : e2 = stErr lr mu wd nest f (ngs W) (ngs M) (ngs G)) :
    (e1 = 1 ∧ e2 = 1) ∨ (e1 = 5 ∧ e2 = 5) ∨ (e1 = 2 ∧ e2 = 2) ∨ (e1 = 2 ∧ e2 = 0) ∨ (e1 = 0 ∧ e2 = 2) ∨ (e1 = 0 ∧ e2 = 0) := by
  subst h1 h2
  unfold stErr
  simp only [ngs_len]
  by_cases a : rightM lr mu wd f = true
  · simp only [if_pos a]
    by_cases b : M.length = W.length ∧ G.length = W.length
    · simp only [if_pos b]
      by_cases c : errTo lr mu wd nest f.toNat W M G W.length = 0 <;> by_cases d : errTo lr mu wd nest f.toNat (ngs W) (ngs M) (ngs G) W.length = 0 <;> simp [c, d]
    · simp only [if_neg b]; simp
  · simp only [if_neg a]; simp
end Go.Proofs.Ytbnnonmkkkhepaa
