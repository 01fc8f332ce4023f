/- Part. -/
import Derived.Test.YtfhhgjbcenhdeaaGreatDoorS18
set_option linter.all false
set_option maxRecDepth 100000
set_option maxHeartbeats 0
namespace Go.Je
open Go Go.FM Go.Gv Go.Proofs
theorem QE2 : QE fun n => n = 29 := yE
end Go.Je
