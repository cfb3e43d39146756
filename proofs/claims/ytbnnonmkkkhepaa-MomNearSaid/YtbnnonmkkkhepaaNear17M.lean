/- Momentum's step is near what is exact, plainly. No program in sight but for the words of the step. -/
import Derived.Test.YtbnnonmkkkhepaaNear
import Derived.Test.YtbnnonmkkkhepaaTurned
namespace Go.Proofs.Ytbnnonmkkkhepaa
theorem rne_near (x D : Nat) (hD : 0 < D) : 2 * ((rne x D : Int) * D - x).natAbs ≤ D := by
  have e := Nat.div_add_mod x D
  have hr := Nat.mod_lt x hD
  unfold rne
  split
  · rename_i h
    have : ((x / D + 1 : Nat) : Int) * D = ((D * (x / D) : Nat) : Int) + D := by rw [Nat.mul_comm]; simp [Int.add_mul]
    rw [this]; omega
  · rename_i h
    have : ((x / D : Nat) : Int) * D = ((D * (x / D) : Nat) : Int) := by rw [Nat.mul_comm]; simp
    rw [this]; omega
theorem mulZ_near (a b : Int) (k : Nat) : 2 * (mulZ a b k * ((2 ^ k : Nat) : Int) - a * b).natAbs ≤ 2 ^ k := by
  have h := rne_near (a.natAbs * b.natAbs) (2 ^ k) (Nat.pow_pos (by omega))
  have e := mul_sided a b
  rw [← e]
  unfold mulZ
  generalize rne (a.natAbs * b.natAbs) (2 ^ k) = m at *
  generalize a.natAbs * b.natAbs = x at *
  generalize (2 ^ k : Nat) = D at *
  cases (decide (a < 0) != decide (b < 0))
  · simpa [sided] using h
  · simp only [sided, if_true, Int.neg_mul]
    omega
theorem absQ_mk (p : Int) (N : Nat) (h : 0 < N) : absQ (mkRat p N) = mkRat p.natAbs N := by
  have := (mk_num p N (by omega)).2.2
  unfold absQ
  by_cases hp : p < 0
  · rw [if_pos (by rw [decide_eq_true hp] at this; simpa using this), Rat.neg_mkRat]
    congr 1; omega
  · rw [if_neg (by rw [decide_eq_false hp] at this; simpa using this)]
    congr 1; omega
theorem half_mk (p : Int) (D : Nat) (hD : 0 < D) (h : 2 * p.natAbs ≤ D) : cmpQ (absQ (mkRat p (D * D)) + absQ (mkRat p (D * D))) (mkRat 1 D) ≤ 0 := by
  have hDD : 0 < D * D := Nat.mul_pos hD hD
  have h0 : (D : Rat) ≠ 0 := by
    intro e
    have := Rat.natCast_inj.1 (e.trans (by simp : (0 : Rat) = ((0 : Nat) : Rat)))
    omega
  rw [absQ_mk _ _ hDD]
  have e1 : mkRat (p.natAbs : Int) (D * D) + mkRat (p.natAbs : Int) (D * D) = mkRat ((p.natAbs : Int) + p.natAbs) (D * D) := by
    simp only [Rat.mkRat_eq_div, Rat.intCast_add]
    grind
  have e2 : mkRat 1 D = mkRat (D : Int) (D * D) := by
    simp only [Rat.mkRat_eq_div, Rat.natCast_mul, Rat.intCast_natCast]
    grind
  rw [e1, e2, cmpQ_mk _ _ _ hDD]
  unfold cmpI
  (repeat' split) <;> omega
theorem near_v (a b g m : Int) (D : Nat) (hD : 0 < D) : mkRat (m + g) D - (mkRat a D * mkRat b D + mkRat g D) = mkRat (m * (D : Int) - a * b) (D * D) := by
  have h0 : (D : Rat) ≠ 0 := by
    intro e
    have := Rat.natCast_inj.1 (e.trans (by simp : (0 : Rat) = ((0 : Nat) : Rat)))
    omega
  simp only [Rat.mkRat_eq_div, Rat.intCast_add, Rat.intCast_sub, Rat.intCast_mul, Rat.natCast_mul, Rat.intCast_natCast]
  grind
theorem near_w (lr u W m : Int) (D : Nat) (hD : 0 < D) : mkRat (W - m) D - (mkRat W D - mkRat lr D * mkRat u D) = mkRat (-(m * (D : Int) - lr * u)) (D * D) := by
  have h0 : (D : Rat) ≠ 0 := by
    intro e
    have := Rat.natCast_inj.1 (e.trans (by simp : (0 : Rat) = ((0 : Nat) : Rat)))
    omega
  simp only [Rat.mkRat_eq_div, Rat.intCast_neg, Rat.intCast_sub, Rat.intCast_mul, Rat.natCast_mul, Rat.intCast_natCast]
  grind
/-- NEAR, for a place -/
theorem near_place {lr mu : Int} {nest : Bool} {k : Nat} {w v g : Int} (ig : In64 g) (h : stE lr mu 0 nest k w v g = 0) :
    cmpQ (absQ (mkRat (stV mu k v (stD 0 k w g)) (2 ^ k) - (mkRat mu (2 ^ k) * mkRat v (2 ^ k) + mkRat g (2 ^ k))) + absQ (mkRat (stV mu k v (stD 0 k w g)) (2 ^ k) - (mkRat mu (2 ^ k) * mkRat v (2 ^ k) + mkRat g (2 ^ k)))) (mkRat 1 (2 ^ k)) ≤ 0 ∧
    cmpQ (absQ (mkRat (stW lr k w (stU nest mu k (stD 0 k w g) (stV mu k v (stD 0 k w g)))) (2 ^ k) - (mkRat w (2 ^ k) - mkRat lr (2 ^ k) * mkRat (stU nest mu k (stD 0 k w g) (stV mu k v (stD 0 k w g))) (2 ^ k))) + absQ (mkRat (stW lr k w (stU nest mu k (stD 0 k w g) (stV mu k v (stD 0 k w g)))) (2 ^ k) - (mkRat w (2 ^ k) - mkRat lr (2 ^ k) * mkRat (stU nest mu k (stD 0 k w g) (stV mu k v (stD 0 k w g))) (2 ^ k)))) (mkRat 1 (2 ^ k)) ≤ 0 ∧
    (nest = true → stU nest mu k (stD 0 k w g) (stV mu k v (stD 0 k w g)) = g + fitV (mulZ mu (stV mu k v (stD 0 k w g)) k)) ∧ (nest = false → stU nest mu k (stD 0 k w g) (stV mu k v (stD 0 k w g)) = stV mu k v (stD 0 k w g)) := by
  have hD : 0 < 2 ^ k := Nat.pow_pos (by omega)
  obtain ⟨_, a2, a3, a4, a5⟩ := stE_parts h
  have hd := stD_plain k w ig
  refine ⟨?_, ?_, fun hn => ?_, a4⟩
  · rw [a2, hd, near_v mu v g (mulZ mu v k) _ hD]
    exact half_mk _ _ hD (mulZ_near mu v k)
  · rw [a5, near_w lr _ w _ _ hD]
    refine half_mk _ _ hD ?_
    rw [Int.natAbs_neg]
    exact mulZ_near lr _ k
  · subst hn
    unfold stE at h
    dsimp only at h
    obtain ⟨_, h⟩ := joinE_zero h
    obtain ⟨_, h⟩ := joinE_zero h
    obtain ⟨_, h⟩ := joinE_zero h
    obtain ⟨_, h⟩ := joinE_zero h
    obtain ⟨h, _⟩ := joinE_zero h
    simp only [if_true] at h
    obtain ⟨h, _⟩ := joinE_zero h
    rw [a3 rfl, hd] at *
    rw [hd] at h
    rw [(fitE_zero h).1]
/-- twice as far as a mantissa is from a number, against one step -/
def far2 (n : Int) (r : Rat) (k : Nat) : Int := cmpQ (absQ (mkRat n (2 ^ k) - r) + absQ (mkRat n (2 ^ k) - r)) (mkRat 1 (2 ^ k))
/-- NEAR, of rows -/
theorem near_runs {lr mu : Int} {nest : Bool} {f : Int} {W M G : List Int} (iG : AllIn G) (e : stErr lr mu 0 nest f W M G = 0) {i : Nat} (hi : i < W.length) :
    ∃ u, In64 u ∧ In64 (iat (stMs lr mu 0 nest f W M G) i) ∧ In64 (iat (stWs lr mu 0 nest f W M G) i) ∧
      (nest = true → Go.IntKind.i64.wrap (iat G i + fitV (mulZ mu (iat (stMs lr mu 0 nest f W M G) i) f.toNat)) = u) ∧ (nest = false → u = iat (stMs lr mu 0 nest f W M G) i) ∧
      far2 (iat (stMs lr mu 0 nest f W M G) i) (mkRat mu (2 ^ f.toNat) * mkRat (iat M i) (2 ^ f.toNat) + mkRat (iat G i) (2 ^ f.toNat)) f.toNat ≤ 0 ∧
      far2 (iat (stWs lr mu 0 nest f W M G) i) (mkRat (iat W i) (2 ^ f.toNat) - mkRat lr (2 ^ f.toNat) * mkRat u (2 ^ f.toNat)) f.toNat ≤ 0 := by
  obtain ⟨_, lm, lg, t⟩ := stErr_zero e
  obtain ⟨n1, n2, n3, n4⟩ := near_place (iG i) (errTo_zero t i hi)
  rw [stMs_at e hi, stWs_at e hi]
  unfold plV plW
  refine ⟨stU nest mu f.toNat (stD 0 f.toNat (iat W i) (iat G i)) (stV mu f.toNat (iat M i) (stD 0 f.toNat (iat W i) (iat G i))), ?_, fitV_in _, fitV_in _, fun hn => ?_, fun hn => ?_, n1, n2⟩
  · cases nest
    · rw [n4 rfl]; exact fitV_in _
    · unfold stU; rw [if_pos rfl]; exact fitV_in _
  · have h := n3 hn
    have hu : In64 (stU nest mu f.toNat (stD 0 f.toNat (iat W i) (iat G i)) (stV mu f.toNat (iat M i) (stD 0 f.toNat (iat W i) (iat G i)))) := by subst hn; unfold stU; rw [if_pos rfl]; exact fitV_in _
    rw [← h]
    unfold In64 at hu
    rw [Go.IntKind.wrap_i64]; omega
  · exact n4 hn
end Go.Proofs.Ytbnnonmkkkhepaa
