/- Parts of the proof. -/
import Derived.Test.YtfhhgjbcenhdeaaGreatDoorF19
set_option linter.unusedSimpArgs false
set_option linter.unusedVariables false
namespace Go.Je
open Go Go.FM Go.Gv Go.Proofs
set_option maxRecDepth 100000
set_option maxHeartbeats 40000000
end Go.Je
