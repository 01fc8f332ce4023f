/- Parts of the proof. -/
import Derived.Test.YtfhhgjbcenhdeaaGreatDoorF4
import Derived.Test.YtfhhgjbcenhdeaaGreatDoorProg
import Derived.Shelf.Spec.TrailingZeros
set_option linter.unusedSimpArgs false
set_option linter.unusedVariables false
namespace Go.Je
open Go Go.FM Go.RowKit Go.Proofs Go.Shelf
def tzR : Ren := ⟨fun n => match n with | 29 => 42 | _ => 0, fun n => match n with | 0 => 0 | 3 => 3 | 4 => 4 | 5 => 5 | 22 => 67 | 25 => 126 | 54 => 125 | _ => 0, fun _ => 0⟩
theorem tzL : Lays7.n29 Tryz.prog tzR where
 mixed := by kernel_rfl
 f29 := by kernel_rfl
 t0 := by kernel_rfl
 a0 := fun w => by kernel_rfl
 z0 := fun w => by kernel_rfl
 v0 := fun w => by kernel_rfl
 i0 := by kernel_rfl
 t3 := by kernel_rfl
 a3 := fun w => by kernel_rfl
 z3 := fun w => by kernel_rfl
 v3 := fun w => by kernel_rfl
 i3 := by kernel_rfl
 t4 := by kernel_rfl
 a4 := fun w => by kernel_rfl
 z4 := fun w => by kernel_rfl
 v4 := fun w => by kernel_rfl
 i4 := by kernel_rfl
 t5 := by kernel_rfl
 a5 := fun w => by kernel_rfl
 z5 := fun w => by kernel_rfl
 v5 := fun w => by kernel_rfl
 i5 := by kernel_rfl
 t22 := by kernel_rfl
 a22 := fun w => by kernel_rfl
 z22 := fun w => by kernel_rfl
 v22 := fun w => by kernel_rfl
 i22 := by kernel_rfl
 t25 := by kernel_rfl
 a25 := fun w => by kernel_rfl
 z25 := fun w => by kernel_rfl
 v25 := fun w => by kernel_rfl
 i25 := by kernel_rfl
 t54 := by kernel_rfl
 a54 := fun w => by kernel_rfl
 z54 := fun w => by kernel_rfl
 g1 := by kernel_rfl
def tzV (n : Nat) : Value := .int .u8 (n : Int)
def Gl : List (Nat × List Value) := [(0, Lib.deBruijn64tab.map tzV)]
theorem f5z (x : Nat) (hx : x < 18446744073709551616) (H : Heap) : FC Tryz.prog Gl 42 [.int .u64 x] H (.int .i64 (Lib.ctz 64 x)) H := by
 refine b5f fun w F m vs hF hG hv hH => ?_
 cases hv with
 | cons _ v _ vs h1 h2 =>
 cases h2
 cases h1
 refine (Any7.bits_TrailingZeros64 tzL x hx w fun _ j hj => ?_).mono ?_
 . obtain ⟨_, _, h⟩ := hG (0, Lib.deBruijn64tab.map tzV) (by simp [Gl])
   refine h j _ ?_
   rw [List.getElem?_map, gE_ hj, gD_, gE_ hj]
   rfl
 . rintro e w' ⟨rfl, rfl⟩
   exact ⟨_, rfl, Below.refl _ _, .int _ _⟩
end Go.Je
