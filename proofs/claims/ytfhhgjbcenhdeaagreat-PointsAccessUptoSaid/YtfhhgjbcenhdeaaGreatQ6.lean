/- Parts of the proof. -/
import Derived.Test.YtfhhgjbcenhdeaaGreatQ4
import Derived.Test.YtfhhgjbcenhdeaaGreatProg
import Derived.Shelf.SlIterI.Collect
set_option linter.unusedSimpArgs false
set_option linter.unusedVariables false
namespace Go.Ge
open Go Go.FM Go.RowKit Go.Proofs Go.Shelf Go.Maps
def Gl : List (Nat × List Value) := []
def kR : Ren := ⟨fun n => match n with | 10 => 53 | _ => 52, fun n => match n with | 0 => 0 | 4 => 4 | 23 => 54 | 26 => 3 | 3 => 59 | 33 => 60 | 24 => 42 | 28 => 57 | _ => 0, fun _ => 0⟩
theorem kL10 : SlLaysZI.n10 Tryz.prog kR where
 mixed := by kernel_rfl
 f10 := ⟨Tryz.f53.name, by kernel_rfl, by kernel_rfl⟩
 t0 := by kernel_rfl
 a0 := fun w => by kernel_rfl
 z0 := fun w => by kernel_rfl
 v0 := fun w => by kernel_rfl
 t4 := by kernel_rfl
 a4 := fun w => by kernel_rfl
 z4 := fun w => by kernel_rfl
 v4 := fun w => by kernel_rfl
 t23 := by kernel_rfl
 a23 := fun w => by kernel_rfl
 z23 := fun w => by kernel_rfl
 v23 := fun w => by kernel_rfl
 t26 := by kernel_rfl
 a26 := fun w => by kernel_rfl
 z26 := fun w => by kernel_rfl
 v26 := fun w => by kernel_rfl
 t33 := by kernel_rfl
 a33 := fun w => by kernel_rfl
 z33 := fun w => by kernel_rfl
 v33 := fun w => by kernel_rfl
def noR : Value -> Option (DataW Unit × List MemPlace) := fun _ => some (.nil, [])
end Go.Ge
