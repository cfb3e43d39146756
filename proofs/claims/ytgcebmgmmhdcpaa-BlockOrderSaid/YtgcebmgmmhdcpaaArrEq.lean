/- Two arrays of two limbs compared. -/
import Derived.Test.YtgcebmgmmhdcpaaApp
import Derived.ChangeKeysEq
import Derived.Laws.StructEq
namespace Go.Proofs.Ytgcebmgmmhdcpaa
open Go.RowKit Go.ChangeShapes
theorem eqi_u64 (d : Nat) (a b : Int) (W : World) : (Op.equalIn (d + 1) 72 (.int .u64 a) (.int .u64 b)).run Try.prog W = .ok (a == b) W := by
  exact run_equalIn_int (P := Try.prog) W d 72 .u64 .u64 a b Try.underlying72
theorem eql_pair (a b c d : Int) (W : World) :
    (Op.equalIn 10000 131 (.agg #[.int .u64 a, .int .u64 b]) (.agg #[.int .u64 c, .int .u64 d])).run Try.prog W = .ok (a == c && b == d) W := by
  obtain ⟨i, hi, _⟩ := info_parts info_u64
  have hc : Try.prog.cellsOf 72 = 1 := by kernel_rfl
  have hr : List.range 2 = [0, 1] := rfl
  rw [show (10000 : Nat) = 9999 + 1 from rfl, run_equalIn_array W 9999 _ _ Try.underlying131 hi, hc, hr]
  have e := eqi_u64 9998
  have hk : Try.prog.plainKey 72 = true := by kernel_rfl
  have hp : ∀ (x y : Int) (W : World), (part 72 #[.int .u64 x, .int .u64 y] (0 * 1)).run Try.prog W = .ok (.int .u64 x) W := by intro x y W; exact run_part_plain W hk rfl
  have hp1 : ∀ (x y : Int) (W : World), (part 72 #[.int .u64 x, .int .u64 y] (1 * 1)).run Try.prog W = .ok (.int .u64 y) W := by intro x y W; exact run_part_plain W hk rfl
  simp only [Op.eqItems, Sem.run_bind, hp, hp1, Result.andThen_ok, e]
  cases h1 : (a == c) <;> cases h2 : (b == d) <;> simp [Op.eqItems, Sem.run_bind, hp, hp1, Result.andThen_ok, e, h1, h2]
end Go.Proofs.Ytgcebmgmmhdcpaa
