/- Parts of the proof. -/
import Derived.Test.YtfhhgjbcenhdeaaGreatDoorH29
import Derived.Test.YtfhhgjbcenhdeaaGreatDoorH31
import Derived.Test.YtfhhgjbcenhdeaaGreatDoorH33
import Derived.Test.YtfhhgjbcenhdeaaGreatDoorH32
import Derived.Test.YtfhhgjbcenhdeaaGreatDoorH27
import Derived.Test.YtfhhgjbcenhdeaaGreatDoorH30
import Derived.Test.YtfhhgjbcenhdeaaGreatDoorH22
import Derived.Test.YtfhhgjbcenhdeaaGreatDoorH21
import Derived.Test.YtfhhgjbcenhdeaaGreatDoorH24
set_option linter.unusedSimpArgs false
set_option linter.unusedVariables false
namespace Go.Je
open Go Go.FM Go.Gv Go.Proofs
set_option maxRecDepth 100000
set_option maxHeartbeats 40000000
end Go.Je
