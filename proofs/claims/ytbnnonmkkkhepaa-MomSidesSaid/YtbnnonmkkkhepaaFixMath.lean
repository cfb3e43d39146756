/- Numbers of a fixed point, plainly: rounding to the nearest, of two as near the even one; what 64 bits hold. No program in sight. -/
import Derived.Test.YtbnnonmkkkhepaaMath
namespace Go.Proofs.Ytbnnonmkkkhepaa

/-- a natural number by another one, to the nearest, of two as near the even one -/
def rne (n d : Nat) : Nat := if d < 2 * (n % d) ∨ (2 * (n % d) = d ∧ n / d % 2 = 1) then n / d + 1 else n / d
/-- a size and a side -/
def sided (neg : Bool) (n : Nat) : Int := if neg then -(n : Int) else n
/-- a number that 64 bits hold, else 0; and whether they do (an errno) -/
def fitV (z : Int) : Int := if -9223372036854775808 ≤ z ∧ z ≤ 9223372036854775807 then z else 0
def fitE (z : Int) : Int := if -9223372036854775808 ≤ z ∧ z ≤ 9223372036854775807 then 0 else 2
theorem fit_in {z : Int} (h : -9223372036854775808 ≤ z ∧ z ≤ 9223372036854775807) : fitV z = z ∧ fitE z = 0 := ⟨if_pos h, if_pos h⟩
theorem fit_out {z : Int} (h : ¬ (-9223372036854775808 ≤ z ∧ z ≤ 9223372036854775807)) : fitV z = 0 ∧ fitE z = 2 := ⟨if_neg h, if_neg h⟩
theorem rne_ge (n d : Nat) : n / d ≤ rne n d := by unfold rne; split <;> omega
theorem rne_le (n d : Nat) : rne n d ≤ n / d + 1 := by unfold rne; split <;> omega
theorem sided_big {neg : Bool} {n : Nat} (h : 18446744073709551616 ≤ n) : ¬ (-9223372036854775808 ≤ sided neg n ∧ sided neg n ≤ 9223372036854775807) := by
  unfold sided; cases neg <;> simp <;> omega
/-- a product in a fixed point, before it is fitted -/
def mulZ (a b : Int) (f : Nat) : Int := sided (decide (a < 0) != decide (b < 0)) (rne (a.natAbs * b.natAbs) (2 ^ f))
/-- does it fit? -/
def fitB (z : Int) : Bool := decide (-9223372036854775808 ≤ z ∧ z ≤ 9223372036854775807)
theorem fitE_eq (z : Int) : fitE z = if fitB z then 0 else 2 := by unfold fitE fitB; simp
theorem fitV_in (z : Int) : -9223372036854775808 ≤ fitV z ∧ fitV z ≤ 9223372036854775807 := by unfold fitV; split <;> omega
/-- the first error is kept -/
def joinE (e x : Int) : Int := if e = 0 then x else e
theorem joinE_assoc (e x y : Int) : joinE (joinE e x) y = joinE e (joinE x y) := by unfold joinE; split <;> simp_all
/-- momentum's step: what is added to a velocity, the velocity, what a weight goes by, the weight, the error -/
def stD (wd : Int) (f : Nat) (w g : Int) : Int := fitV (g + fitV (mulZ wd w f))
def stV (mu : Int) (f : Nat) (v d : Int) : Int := fitV (fitV (mulZ mu v f) + d)
def stU (nest : Bool) (mu : Int) (f : Nat) (d vel : Int) : Int := if nest then fitV (d + fitV (mulZ mu vel f)) else vel
def stW (lr : Int) (f : Nat) (w u : Int) : Int := fitV (w - fitV (mulZ lr u f))
def stE (lr mu wd : Int) (nest : Bool) (f : Nat) (w v g : Int) : Int :=
  let d := stD wd f w g; let vel := stV mu f v d; let u := stU nest mu f d vel
  joinE (fitE (mulZ wd w f)) (joinE (fitE (g + fitV (mulZ wd w f))) (joinE (fitE (mulZ mu v f)) (joinE (fitE (fitV (mulZ mu v f) + d))
    (joinE (if nest then joinE (fitE (mulZ mu vel f)) (fitE (d + fitV (mulZ mu vel f))) else 0) (joinE (fitE (mulZ lr u f)) (fitE (w - fitV (mulZ lr u f))))))))
end Go.Proofs.Ytbnnonmkkkhepaa
