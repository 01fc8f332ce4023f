/- Part. -/
import Derived.Test.YtfhhgjbcenhdeaaGreatDoorS38
import Derived.Test.YtfhhgjbcenhdeaaGreatDoorS39
set_option linter.all false
set_option maxRecDepth 100000
set_option maxHeartbeats 0
namespace Go.Je
open Go Go.FM Go.Gv Go.Proofs
theorem QE3 : QE fun n => n = 32 := yE
theorem f8c : QE fun n => n = 27 \/ n = 29 \/ n = 32 := by
 intro p hp Y hy B hB i j hi hj q
 rcases q with q | q | q
 . exact QE1 hp hy hB hi hj q
 . exact QE2 hp hy hB hi hj q
 . exact QE3 hp hy hB hi hj q
end Go.Je
