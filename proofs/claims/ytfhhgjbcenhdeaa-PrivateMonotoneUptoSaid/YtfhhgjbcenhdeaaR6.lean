/- Parts of the proof. -/
import Derived.Test.YtfhhgjbcenhdeaaR4
import Derived.Test.YtfhhgjbcenhdeaaProg
set_option linter.unusedSimpArgs false
set_option linter.unusedVariables false
namespace Go.He
open Go Go.FM Go.RowKit Go.Proofs
def Gl : List (Nat × List Value) := []
end Go.He
