/- What 64 bits hold, with a sign. -/
namespace Go.Proofs.Ytbnnonmkkkhepaa
/-- 64 bits hold it -/
def In64 (a : Int) : Prop := -9223372036854775808 ≤ a ∧ a ≤ 9223372036854775807
end Go.Proofs.Ytbnnonmkkkhepaa
