/- Walks of small functions on limbs. -/
import Derived.Test.YtbnnonmkkkhepaaBase
import Derived.Deep.QuietTactic
import Derived.BigQuiet
import Derived.Outline
import Derived.LoopTactic
namespace Go.Proofs.Ytbnnonmkkkhepaa
open Go.RowKit

end Go.Proofs.Ytbnnonmkkkhepaa
