/- Walks of the reference's small functions on limbs: Few, Right, Bare, Of, Small, Cmp, Same, Bits, at, halves, whole. -/
import Derived.Test.YtgcebmgmmhdcpaaNat1
import Derived.Test.YtgcebmgmmhdcpaaApp
import Derived.StillTailTactics
import Derived.Outline
import Derived.Deep.QuietTactic
import Derived.BigQuiet
import Derived.LoopTactic
namespace Go.Proofs.Ytgcebmgmmhdcpaa
open Go.RowKit

end Go.Proofs.Ytgcebmgmmhdcpaa
