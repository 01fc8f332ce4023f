/- Part. -/
import Derived.Test.YtfhhgjbcenhdeaaGreatDoorProg
import Derived.Shelf.Slices.Clone
import Derived.Shelf.Slices.CompactS
import Derived.Shelf.Slices.Turned
import Derived.Shelf.Slices.In.SortNone
import Derived.Shelf.Sort.Plain
import Derived.Lib.OwnBridge
import Derived.Sort.OwnSorted
import Derived.Sort.Grow
set_option linter.all false
set_option maxRecDepth 100000
set_option maxHeartbeats 0
namespace Go.Je
open Go Go.RowKit Go.Proofs Go.Shelf
def uR1 : Ren := ⟨fun n => match n with | 16 => 125 | _ => 0, fun n => match n with | 24 => 117 | 9 => 9 | 4 => 4 | _ => 0, fun _ => 0⟩
theorem uL1 : Lays2.n16 Tryz.prog uR1 where
 mixed := by kernel_rfl
 f16 := by kernel_rfl
 t4 := by kernel_rfl
 a4 := fun w => by kernel_rfl
 z4 := fun w => by kernel_rfl
 v4 := fun w => by kernel_rfl
 t9 := by kernel_rfl
 a9 := fun w => by kernel_rfl
 z9 := fun w => by kernel_rfl
 v9 := fun w => by kernel_rfl
 t24 := by kernel_rfl
 a24 := fun w => by kernel_rfl
 z24 := fun w => by kernel_rfl
 v24 := fun w => by kernel_rfl
 i9 := by kernel_rfl
def uR2 : Ren := ⟨fun n => match n with | 190 => 126 | 125 => 168 | 258 => 167 | 128 => 191 | 129 => 192 | 302 => 182 | 303 => 183 | 304 => 184 | 305 => 185 | 306 => 186 | 307 => 187 | 308 => 188 | 309 => 189 | 310 => 190 | 333 => 203 | 329 => 204 | 330 => 205 | 334 => 206 | 335 => 207 | 336 => 208 | 344 => 213 | _ => 0, fun n => match n with | 31 => 117 | 9 => 9 | 3 => 3 | 46 => 126 | 0 => 0 | 51 => 221 | 53 => 67 | 4 => 4 | 183 => 214 | 182 => 213 | 131 => 113 | 5 => 5 | 218 => 227 | 222 => 231 | 228 => 236 | 229 => 237 | _ => 0, fun _ => 0⟩
theorem uL2 : Lays.n190 Tryz.prog uR2 where
 mixed := by kernel_rfl
 f125 := by kernel_rfl
 f128 := by kernel_rfl
 f129 := by kernel_rfl
 f190 := by kernel_rfl
 f258 := by kernel_rfl
 f302 := by kernel_rfl
 f303 := by kernel_rfl
 f304 := by kernel_rfl
 f305 := by kernel_rfl
 f306 := by kernel_rfl
 f307 := by kernel_rfl
 f308 := by kernel_rfl
 f309 := by kernel_rfl
 f310 := by kernel_rfl
 f329 := by kernel_rfl
 f330 := by kernel_rfl
 f333 := by kernel_rfl
 f334 := by kernel_rfl
 f335 := by kernel_rfl
 f336 := by kernel_rfl
 f344 := by kernel_rfl
 t0 := by kernel_rfl
 a0 := fun w => by kernel_rfl
 z0 := fun w => by kernel_rfl
 v0 := fun w => by kernel_rfl
 t3 := by kernel_rfl
 a3 := fun w => by kernel_rfl
 z3 := fun w => by kernel_rfl
 v3 := fun w => by kernel_rfl
 t4 := by kernel_rfl
 a4 := fun w => by kernel_rfl
 z4 := fun w => by kernel_rfl
 v4 := fun w => by kernel_rfl
 t5 := by kernel_rfl
 a5 := fun w => by kernel_rfl
 z5 := fun w => by kernel_rfl
 v5 := fun w => by kernel_rfl
 t9 := by kernel_rfl
 a9 := fun w => by kernel_rfl
 z9 := fun w => by kernel_rfl
 v9 := fun w => by kernel_rfl
 t31 := by kernel_rfl
 a31 := fun w => by kernel_rfl
 z31 := fun w => by kernel_rfl
 v31 := fun w => by kernel_rfl
 t46 := by kernel_rfl
 a46 := fun w => by kernel_rfl
 z46 := fun w => by kernel_rfl
 v46 := fun w => by kernel_rfl
 t51 := by kernel_rfl
 a51 := fun w => by kernel_rfl
 z51 := fun w => by kernel_rfl
 v51 := fun w => by kernel_rfl
 t53 := by kernel_rfl
 a53 := fun w => by kernel_rfl
 z53 := fun w => by kernel_rfl
 v53 := fun w => by kernel_rfl
 t131 := by kernel_rfl
 a131 := fun w => by kernel_rfl
 z131 := fun w => by kernel_rfl
 v131 := fun w => by kernel_rfl
 t182 := by kernel_rfl
 a182 := fun w => by kernel_rfl
 z182 := fun w => by kernel_rfl
 v182 := fun w => by kernel_rfl
 t183 := by kernel_rfl
 a183 := fun w => by kernel_rfl
 z183 := fun w => by kernel_rfl
 v183 := fun w => by kernel_rfl
 t218 := by kernel_rfl
 a218 := fun w => by kernel_rfl
 z218 := fun w => by kernel_rfl
 v218 := fun w => by kernel_rfl
 t222 := by kernel_rfl
 a222 := fun w => by kernel_rfl
 z222 := fun w => by kernel_rfl
 v222 := fun w => by kernel_rfl
 t228 := by kernel_rfl
 a228 := fun w => by kernel_rfl
 z228 := fun w => by kernel_rfl
 v228 := fun w => by kernel_rfl
 t229 := by kernel_rfl
 a229 := fun w => by kernel_rfl
 z229 := fun w => by kernel_rfl
 v229 := fun w => by kernel_rfl
def uR3 : Ren := ⟨fun n => match n with | 194 => 128 | _ => 0, fun n => match n with | 31 => 117 | 9 => 9 | 3 => 3 | 4 => 4 | 0 => 0 | _ => 0, fun _ => 0⟩
theorem uL3 : Lays.n194 Tryz.prog uR3 where
 mixed := by kernel_rfl
 f194 := by kernel_rfl
 t0 := by kernel_rfl
 a0 := fun w => by kernel_rfl
 z0 := fun w => by kernel_rfl
 v0 := fun w => by kernel_rfl
 t3 := by kernel_rfl
 a3 := fun w => by kernel_rfl
 z3 := fun w => by kernel_rfl
 v3 := fun w => by kernel_rfl
 t4 := by kernel_rfl
 a4 := fun w => by kernel_rfl
 z4 := fun w => by kernel_rfl
 v4 := fun w => by kernel_rfl
 t9 := by kernel_rfl
 a9 := fun w => by kernel_rfl
 z9 := fun w => by kernel_rfl
 v9 := fun w => by kernel_rfl
 t31 := by kernel_rfl
 a31 := fun w => by kernel_rfl
 z31 := fun w => by kernel_rfl
 v31 := fun w => by kernel_rfl
def uR4 : Ren := ⟨fun n => match n with | 110 => 127 | 109 => 169 | _ => 0, fun n => match n with | 31 => 117 | 9 => 9 | 4 => 4 | 3 => 3 | 0 => 0 | _ => 0, fun _ => 0⟩
theorem uL4 : Lays.n110 Tryz.prog uR4 where
 mixed := by kernel_rfl
 f109 := by kernel_rfl
 f110 := by kernel_rfl
 t0 := by kernel_rfl
 a0 := fun w => by kernel_rfl
 z0 := fun w => by kernel_rfl
 v0 := fun w => by kernel_rfl
 t3 := by kernel_rfl
 a3 := fun w => by kernel_rfl
 z3 := fun w => by kernel_rfl
 v3 := fun w => by kernel_rfl
 t4 := by kernel_rfl
 a4 := fun w => by kernel_rfl
 z4 := fun w => by kernel_rfl
 v4 := fun w => by kernel_rfl
 t9 := by kernel_rfl
 a9 := fun w => by kernel_rfl
 z9 := fun w => by kernel_rfl
 v9 := fun w => by kernel_rfl
 t31 := by kernel_rfl
 a31 := fun w => by kernel_rfl
 z31 := fun w => by kernel_rfl
 v31 := fun w => by kernel_rfl
end Go.Je
