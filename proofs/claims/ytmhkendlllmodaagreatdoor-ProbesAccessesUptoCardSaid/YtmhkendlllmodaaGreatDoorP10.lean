/- Texts of a proof by an abstract machine over the model. -/
import Derived.Test.YtmhkendlllmodaaGreatDoorP9
import Derived.Test.YtmhkendlllmodaaGreatDoorP4
set_option linter.unusedSimpArgs false
set_option linter.unusedVariables false
namespace Go.Gc
open Go Go.FM Go.Gv Go.Proofs
set_option maxRecDepth 100000
set_option maxHeartbeats 4000000
def wdI : Int → ByteArray
  | 1 => ⟨⟨[99, 111, 110, 115, 116]⟩⟩
  | 2 => ⟨⟨[110, 105, 108]⟩⟩
  | 3 => ⟨⟨[109, 111, 118, 101]⟩⟩
  | 4 => ⟨⟨[97, 100, 100]⟩⟩
  | 5 => ⟨⟨[115, 117, 98]⟩⟩
  | 6 => ⟨⟨[109, 117, 108]⟩⟩
  | 7 => ⟨⟨[100, 105, 118]⟩⟩
  | 8 => ⟨⟨[114, 101, 109]⟩⟩
  | 9 => ⟨⟨[110, 101, 103]⟩⟩
  | 10 => ⟨⟨[110, 111, 116]⟩⟩
  | 11 => ⟨⟨[101, 113]⟩⟩
  | 12 => ⟨⟨[110, 101]⟩⟩
  | 13 => ⟨⟨[108, 116]⟩⟩
  | 14 => ⟨⟨[108, 101]⟩⟩
  | 15 => ⟨⟨[108, 101, 110]⟩⟩
  | 16 => ⟨⟨[106, 117, 109, 112]⟩⟩
  | 17 => ⟨⟨[106, 117, 109, 112, 122]⟩⟩
  | 18 => ⟨⟨[103, 108, 111, 98, 97, 108]⟩⟩
  | 19 => ⟨⟨[102, 105, 101, 108, 100]⟩⟩
  | 20 => ⟨⟨[105, 110, 100, 101, 120]⟩⟩
  | 21 => ⟨⟨[110, 101, 119]⟩⟩
  | 22 => ⟨⟨[115, 108, 105, 99, 101]⟩⟩
  | 23 => ⟨⟨[99, 104, 97, 110]⟩⟩
  | 24 => ⟨⟨[99, 108, 111, 115, 117, 114, 101]⟩⟩
  | 25 => ⟨⟨[99, 97, 112]⟩⟩
  | 26 => ⟨⟨[99, 97, 108, 108]⟩⟩
  | 27 => ⟨⟨[99, 97, 108, 108, 99]⟩⟩
  | 28 => ⟨⟨[100, 101, 102, 101, 114]⟩⟩
  | 29 => ⟨⟨[100, 101, 102, 101, 114, 99]⟩⟩
  | 30 => ⟨⟨[114, 101, 116, 117, 114, 110]⟩⟩
  | 31 => ⟨⟨[103, 111]⟩⟩
  | 32 => ⟨⟨[103, 111, 99]⟩⟩
  | 33 => ⟨⟨[108, 111, 97, 100]⟩⟩
  | 34 => ⟨⟨[115, 116, 111, 114, 101]⟩⟩
  | 35 => ⟨⟨[97, 108, 111, 97, 100]⟩⟩
  | 36 => ⟨⟨[97, 115, 116, 111, 114, 101]⟩⟩
  | 37 => ⟨⟨[97, 97, 100, 100]⟩⟩
  | 38 => ⟨⟨[97, 99, 97, 115]⟩⟩
  | 39 => ⟨⟨[108, 111, 99, 107]⟩⟩
  | 40 => ⟨⟨[117, 110, 108, 111, 99, 107]⟩⟩
  | 41 => ⟨⟨[114, 108, 111, 99, 107]⟩⟩
  | 42 => ⟨⟨[114, 117, 110, 108, 111, 99, 107]⟩⟩
  | 43 => ⟨⟨[103, 114, 111, 117, 112]⟩⟩
  | 44 => ⟨⟨[119, 97, 105, 116]⟩⟩
  | 45 => ⟨⟨[111, 110, 99, 101]⟩⟩
  | 46 => ⟨⟨[111, 110, 99, 101, 101, 110, 100]⟩⟩
  | 47 => ⟨⟨[115, 101, 110, 100]⟩⟩
  | 48 => ⟨⟨[114, 101, 99, 118]⟩⟩
  | 49 => ⟨⟨[99, 108, 111, 115, 101]⟩⟩
  | 50 => ⟨⟨[115, 101, 108, 101, 99, 116]⟩⟩
  | 51 => ⟨⟨[99, 97, 115, 101]⟩⟩
  | 52 => ⟨⟨[112, 114, 105, 110, 116]⟩⟩
  | _ => ⟨⟨[]⟩⟩
def rlI : Int → ByteArray
  | 1 => ⟨⟨[100, 105, 45]⟩⟩
  | 2 => ⟨⟨[100, 45, 45]⟩⟩
  | 3 => ⟨⟨[100, 115, 45]⟩⟩
  | 4 => ⟨⟨[100, 115, 115]⟩⟩
  | 5 => ⟨⟨[100, 115, 115]⟩⟩
  | 6 => ⟨⟨[100, 115, 115]⟩⟩
  | 7 => ⟨⟨[100, 115, 115]⟩⟩
  | 8 => ⟨⟨[100, 115, 115]⟩⟩
  | 9 => ⟨⟨[100, 115, 45]⟩⟩
  | 10 => ⟨⟨[100, 115, 45]⟩⟩
  | 11 => ⟨⟨[100, 115, 115]⟩⟩
  | 12 => ⟨⟨[100, 115, 115]⟩⟩
  | 13 => ⟨⟨[100, 115, 115]⟩⟩
  | 14 => ⟨⟨[100, 115, 115]⟩⟩
  | 15 => ⟨⟨[100, 115, 45]⟩⟩
  | 16 => ⟨⟨[45, 45, 116]⟩⟩
  | 17 => ⟨⟨[115, 45, 116]⟩⟩
  | 18 => ⟨⟨[100, 103, 45]⟩⟩
  | 19 => ⟨⟨[100, 115, 110]⟩⟩
  | 20 => ⟨⟨[100, 115, 115]⟩⟩
  | 21 => ⟨⟨[100, 108, 45]⟩⟩
  | 22 => ⟨⟨[100, 115, 45]⟩⟩
  | 23 => ⟨⟨[100, 115, 45]⟩⟩
  | 24 => ⟨⟨[100, 99, 107]⟩⟩
  | 25 => ⟨⟨[100, 112, 45]⟩⟩
  | 26 => ⟨⟨[68, 102, 97]⟩⟩
  | 27 => ⟨⟨[115, 45, 45]⟩⟩
  | 28 => ⟨⟨[45, 102, 97]⟩⟩
  | 29 => ⟨⟨[115, 45, 45]⟩⟩
  | 30 => ⟨⟨[83, 45, 45]⟩⟩
  | 31 => ⟨⟨[45, 102, 97]⟩⟩
  | 32 => ⟨⟨[115, 45, 45]⟩⟩
  | 33 => ⟨⟨[100, 115, 45]⟩⟩
  | 34 => ⟨⟨[115, 115, 45]⟩⟩
  | 35 => ⟨⟨[100, 115, 45]⟩⟩
  | 36 => ⟨⟨[115, 115, 45]⟩⟩
  | 37 => ⟨⟨[100, 115, 115]⟩⟩
  | 38 => ⟨⟨[100, 115, 115]⟩⟩
  | 39 => ⟨⟨[115, 45, 45]⟩⟩
  | 40 => ⟨⟨[115, 45, 45]⟩⟩
  | 41 => ⟨⟨[115, 45, 45]⟩⟩
  | 42 => ⟨⟨[115, 45, 45]⟩⟩
  | 43 => ⟨⟨[115, 115, 45]⟩⟩
  | 44 => ⟨⟨[115, 45, 45]⟩⟩
  | 45 => ⟨⟨[115, 45, 116]⟩⟩
  | 46 => ⟨⟨[115, 45, 45]⟩⟩
  | 47 => ⟨⟨[115, 115, 45]⟩⟩
  | 48 => ⟨⟨[68, 115, 68]⟩⟩
  | 49 => ⟨⟨[115, 45, 45]⟩⟩
  | 50 => ⟨⟨[100, 120, 98]⟩⟩
  | 51 => ⟨⟨[115, 98, 118]⟩⟩
  | 52 => ⟨⟨[115, 45, 45]⟩⟩
  | _ => ⟨⟨[]⟩⟩
def rlR : Int → ByteArray
  | 1 => ⟨⟨[100, 105, 45]⟩⟩
  | 2 => ⟨⟨[100, 45, 45]⟩⟩
  | 3 => ⟨⟨[100, 114, 45]⟩⟩
  | 4 => ⟨⟨[100, 114, 114]⟩⟩
  | 5 => ⟨⟨[100, 114, 114]⟩⟩
  | 6 => ⟨⟨[100, 114, 114]⟩⟩
  | 7 => ⟨⟨[100, 114, 114]⟩⟩
  | 8 => ⟨⟨[100, 114, 114]⟩⟩
  | 9 => ⟨⟨[100, 114, 45]⟩⟩
  | 10 => ⟨⟨[100, 114, 45]⟩⟩
  | 11 => ⟨⟨[100, 114, 114]⟩⟩
  | 12 => ⟨⟨[100, 114, 114]⟩⟩
  | 13 => ⟨⟨[100, 114, 114]⟩⟩
  | 14 => ⟨⟨[100, 114, 114]⟩⟩
  | 15 => ⟨⟨[100, 114, 45]⟩⟩
  | 16 => ⟨⟨[45, 45, 106]⟩⟩
  | 17 => ⟨⟨[114, 45, 106]⟩⟩
  | 18 => ⟨⟨[100, 103, 45]⟩⟩
  | 19 => ⟨⟨[100, 114, 110]⟩⟩
  | 20 => ⟨⟨[100, 114, 114]⟩⟩
  | 21 => ⟨⟨[100, 108, 45]⟩⟩
  | 22 => ⟨⟨[100, 114, 45]⟩⟩
  | 23 => ⟨⟨[100, 114, 45]⟩⟩
  | 24 => ⟨⟨[100, 49, 110]⟩⟩
  | 25 => ⟨⟨[100, 110, 45]⟩⟩
  | 26 => ⟨⟨[68, 102, 97]⟩⟩
  | 27 => ⟨⟨[114, 45, 45]⟩⟩
  | 28 => ⟨⟨[45, 102, 97]⟩⟩
  | 29 => ⟨⟨[114, 45, 45]⟩⟩
  | 30 => ⟨⟨[82, 45, 45]⟩⟩
  | 31 => ⟨⟨[45, 102, 97]⟩⟩
  | 32 => ⟨⟨[114, 45, 45]⟩⟩
  | 33 => ⟨⟨[100, 114, 45]⟩⟩
  | 34 => ⟨⟨[114, 114, 45]⟩⟩
  | 35 => ⟨⟨[100, 114, 45]⟩⟩
  | 36 => ⟨⟨[114, 114, 45]⟩⟩
  | 37 => ⟨⟨[100, 114, 114]⟩⟩
  | 38 => ⟨⟨[100, 114, 114]⟩⟩
  | 39 => ⟨⟨[114, 45, 45]⟩⟩
  | 40 => ⟨⟨[114, 45, 45]⟩⟩
  | 41 => ⟨⟨[114, 45, 45]⟩⟩
  | 42 => ⟨⟨[114, 45, 45]⟩⟩
  | 43 => ⟨⟨[114, 114, 45]⟩⟩
  | 44 => ⟨⟨[114, 45, 45]⟩⟩
  | 45 => ⟨⟨[114, 45, 106]⟩⟩
  | 46 => ⟨⟨[114, 45, 45]⟩⟩
  | 47 => ⟨⟨[114, 114, 45]⟩⟩
  | 48 => ⟨⟨[68, 114, 68]⟩⟩
  | 49 => ⟨⟨[114, 45, 45]⟩⟩
  | 50 => ⟨⟨[100, 115, 98]⟩⟩
  | 51 => ⟨⟨[114, 98, 99]⟩⟩
  | 52 => ⟨⟨[114, 45, 45]⟩⟩
  | _ => ⟨⟨[]⟩⟩
theorem orc0 : OrcOk Tryz.prog Gl (fun _ _ _ _ => none) := fun _ _ _ _ _ _ _ h => by cases h
theorem x130 : xAns Tryz.prog (fun _ _ _ _ => none) 130 [] = some (.agg [.str ⟨⟨[]⟩⟩, .str ⟨⟨[]⟩⟩, .str ⟨⟨[99, 111, 110, 115, 116]⟩⟩, .str ⟨⟨[100, 105, 45]⟩⟩, .str ⟨⟨[110, 105, 108]⟩⟩, .str ⟨⟨[100, 45, 45]⟩⟩, .str ⟨⟨[109, 111, 118, 101]⟩⟩, .str ⟨⟨[100, 115, 45]⟩⟩, .str ⟨⟨[97, 100, 100]⟩⟩, .str ⟨⟨[100, 115, 115]⟩⟩, .str ⟨⟨[115, 117, 98]⟩⟩, .str ⟨⟨[100, 115, 115]⟩⟩, .str ⟨⟨[109, 117, 108]⟩⟩, .str ⟨⟨[100, 115, 115]⟩⟩, .str ⟨⟨[100, 105, 118]⟩⟩, .str ⟨⟨[100, 115, 115]⟩⟩, .str ⟨⟨[114, 101, 109]⟩⟩, .str ⟨⟨[100, 115, 115]⟩⟩, .str ⟨⟨[110, 101, 103]⟩⟩, .str ⟨⟨[100, 115, 45]⟩⟩, .str ⟨⟨[110, 111, 116]⟩⟩, .str ⟨⟨[100, 115, 45]⟩⟩, .str ⟨⟨[101, 113]⟩⟩, .str ⟨⟨[100, 115, 115]⟩⟩, .str ⟨⟨[110, 101]⟩⟩, .str ⟨⟨[100, 115, 115]⟩⟩, .str ⟨⟨[108, 116]⟩⟩, .str ⟨⟨[100, 115, 115]⟩⟩, .str ⟨⟨[108, 101]⟩⟩, .str ⟨⟨[100, 115, 115]⟩⟩, .str ⟨⟨[108, 101, 110]⟩⟩, .str ⟨⟨[100, 115, 45]⟩⟩, .str ⟨⟨[106, 117, 109, 112]⟩⟩, .str ⟨⟨[45, 45, 116]⟩⟩, .str ⟨⟨[106, 117, 109, 112, 122]⟩⟩, .str ⟨⟨[115, 45, 116]⟩⟩, .str ⟨⟨[103, 108, 111, 98, 97, 108]⟩⟩, .str ⟨⟨[100, 103, 45]⟩⟩, .str ⟨⟨[102, 105, 101, 108, 100]⟩⟩, .str ⟨⟨[100, 115, 110]⟩⟩, .str ⟨⟨[105, 110, 100, 101, 120]⟩⟩, .str ⟨⟨[100, 115, 115]⟩⟩, .str ⟨⟨[110, 101, 119]⟩⟩, .str ⟨⟨[100, 108, 45]⟩⟩, .str ⟨⟨[115, 108, 105, 99, 101]⟩⟩, .str ⟨⟨[100, 115, 45]⟩⟩, .str ⟨⟨[99, 104, 97, 110]⟩⟩, .str ⟨⟨[100, 115, 45]⟩⟩, .str ⟨⟨[99, 108, 111, 115, 117, 114, 101]⟩⟩, .str ⟨⟨[100, 99, 107]⟩⟩, .str ⟨⟨[99, 97, 112]⟩⟩, .str ⟨⟨[100, 112, 45]⟩⟩, .str ⟨⟨[99, 97, 108, 108]⟩⟩, .str ⟨⟨[68, 102, 97]⟩⟩, .str ⟨⟨[99, 97, 108, 108, 99]⟩⟩, .str ⟨⟨[115, 45, 45]⟩⟩, .str ⟨⟨[100, 101, 102, 101, 114]⟩⟩, .str ⟨⟨[45, 102, 97]⟩⟩, .str ⟨⟨[100, 101, 102, 101, 114, 99]⟩⟩, .str ⟨⟨[115, 45, 45]⟩⟩, .str ⟨⟨[114, 101, 116, 117, 114, 110]⟩⟩, .str ⟨⟨[83, 45, 45]⟩⟩, .str ⟨⟨[103, 111]⟩⟩, .str ⟨⟨[45, 102, 97]⟩⟩, .str ⟨⟨[103, 111, 99]⟩⟩, .str ⟨⟨[115, 45, 45]⟩⟩, .str ⟨⟨[108, 111, 97, 100]⟩⟩, .str ⟨⟨[100, 115, 45]⟩⟩, .str ⟨⟨[115, 116, 111, 114, 101]⟩⟩, .str ⟨⟨[115, 115, 45]⟩⟩, .str ⟨⟨[97, 108, 111, 97, 100]⟩⟩, .str ⟨⟨[100, 115, 45]⟩⟩, .str ⟨⟨[97, 115, 116, 111, 114, 101]⟩⟩, .str ⟨⟨[115, 115, 45]⟩⟩, .str ⟨⟨[97, 97, 100, 100]⟩⟩, .str ⟨⟨[100, 115, 115]⟩⟩, .str ⟨⟨[97, 99, 97, 115]⟩⟩, .str ⟨⟨[100, 115, 115]⟩⟩, .str ⟨⟨[108, 111, 99, 107]⟩⟩, .str ⟨⟨[115, 45, 45]⟩⟩, .str ⟨⟨[117, 110, 108, 111, 99, 107]⟩⟩, .str ⟨⟨[115, 45, 45]⟩⟩, .str ⟨⟨[114, 108, 111, 99, 107]⟩⟩, .str ⟨⟨[115, 45, 45]⟩⟩, .str ⟨⟨[114, 117, 110, 108, 111, 99, 107]⟩⟩, .str ⟨⟨[115, 45, 45]⟩⟩, .str ⟨⟨[103, 114, 111, 117, 112]⟩⟩, .str ⟨⟨[115, 115, 45]⟩⟩, .str ⟨⟨[119, 97, 105, 116]⟩⟩, .str ⟨⟨[115, 45, 45]⟩⟩, .str ⟨⟨[111, 110, 99, 101]⟩⟩, .str ⟨⟨[115, 45, 116]⟩⟩, .str ⟨⟨[111, 110, 99, 101, 101, 110, 100]⟩⟩, .str ⟨⟨[115, 45, 45]⟩⟩, .str ⟨⟨[115, 101, 110, 100]⟩⟩, .str ⟨⟨[115, 115, 45]⟩⟩, .str ⟨⟨[114, 101, 99, 118]⟩⟩, .str ⟨⟨[68, 115, 68]⟩⟩, .str ⟨⟨[99, 108, 111, 115, 101]⟩⟩, .str ⟨⟨[115, 45, 45]⟩⟩, .str ⟨⟨[115, 101, 108, 101, 99, 116]⟩⟩, .str ⟨⟨[100, 120, 98]⟩⟩, .str ⟨⟨[99, 97, 115, 101]⟩⟩, .str ⟨⟨[115, 98, 118]⟩⟩, .str ⟨⟨[112, 114, 105, 110, 116]⟩⟩, .str ⟨⟨[115, 45, 45]⟩⟩]) := by kernel_rfl
theorem x92_1 : xAns Tryz.prog (fun _ _ _ _ => none) 92 [.int .i64 1] = some (.tup [.agg [.str ⟨⟨[99, 111, 110, 115, 116]⟩⟩, .str ⟨⟨[100, 105, 45]⟩⟩], .bool true]) := by kernel_rfl
theorem x113_1 : xAns Tryz.prog (fun _ _ _ _ => none) 113 [.int .i64 1] = some (.str ⟨⟨[100, 105, 45]⟩⟩) := by kernel_rfl
theorem x92_2 : xAns Tryz.prog (fun _ _ _ _ => none) 92 [.int .i64 2] = some (.tup [.agg [.str ⟨⟨[110, 105, 108]⟩⟩, .str ⟨⟨[100, 45, 45]⟩⟩], .bool true]) := by kernel_rfl
theorem x113_2 : xAns Tryz.prog (fun _ _ _ _ => none) 113 [.int .i64 2] = some (.str ⟨⟨[100, 45, 45]⟩⟩) := by kernel_rfl
theorem x92_3 : xAns Tryz.prog (fun _ _ _ _ => none) 92 [.int .i64 3] = some (.tup [.agg [.str ⟨⟨[109, 111, 118, 101]⟩⟩, .str ⟨⟨[100, 115, 45]⟩⟩], .bool true]) := by kernel_rfl
theorem x113_3 : xAns Tryz.prog (fun _ _ _ _ => none) 113 [.int .i64 3] = some (.str ⟨⟨[100, 114, 45]⟩⟩) := by kernel_rfl
theorem x92_4 : xAns Tryz.prog (fun _ _ _ _ => none) 92 [.int .i64 4] = some (.tup [.agg [.str ⟨⟨[97, 100, 100]⟩⟩, .str ⟨⟨[100, 115, 115]⟩⟩], .bool true]) := by kernel_rfl
theorem x113_4 : xAns Tryz.prog (fun _ _ _ _ => none) 113 [.int .i64 4] = some (.str ⟨⟨[100, 114, 114]⟩⟩) := by kernel_rfl
theorem x92_5 : xAns Tryz.prog (fun _ _ _ _ => none) 92 [.int .i64 5] = some (.tup [.agg [.str ⟨⟨[115, 117, 98]⟩⟩, .str ⟨⟨[100, 115, 115]⟩⟩], .bool true]) := by kernel_rfl
theorem x113_5 : xAns Tryz.prog (fun _ _ _ _ => none) 113 [.int .i64 5] = some (.str ⟨⟨[100, 114, 114]⟩⟩) := by kernel_rfl
theorem x92_6 : xAns Tryz.prog (fun _ _ _ _ => none) 92 [.int .i64 6] = some (.tup [.agg [.str ⟨⟨[109, 117, 108]⟩⟩, .str ⟨⟨[100, 115, 115]⟩⟩], .bool true]) := by kernel_rfl
theorem x113_6 : xAns Tryz.prog (fun _ _ _ _ => none) 113 [.int .i64 6] = some (.str ⟨⟨[100, 114, 114]⟩⟩) := by kernel_rfl
theorem x92_7 : xAns Tryz.prog (fun _ _ _ _ => none) 92 [.int .i64 7] = some (.tup [.agg [.str ⟨⟨[100, 105, 118]⟩⟩, .str ⟨⟨[100, 115, 115]⟩⟩], .bool true]) := by kernel_rfl
theorem x113_7 : xAns Tryz.prog (fun _ _ _ _ => none) 113 [.int .i64 7] = some (.str ⟨⟨[100, 114, 114]⟩⟩) := by kernel_rfl
theorem x92_8 : xAns Tryz.prog (fun _ _ _ _ => none) 92 [.int .i64 8] = some (.tup [.agg [.str ⟨⟨[114, 101, 109]⟩⟩, .str ⟨⟨[100, 115, 115]⟩⟩], .bool true]) := by kernel_rfl
theorem x113_8 : xAns Tryz.prog (fun _ _ _ _ => none) 113 [.int .i64 8] = some (.str ⟨⟨[100, 114, 114]⟩⟩) := by kernel_rfl
theorem x92_9 : xAns Tryz.prog (fun _ _ _ _ => none) 92 [.int .i64 9] = some (.tup [.agg [.str ⟨⟨[110, 101, 103]⟩⟩, .str ⟨⟨[100, 115, 45]⟩⟩], .bool true]) := by kernel_rfl
theorem x113_9 : xAns Tryz.prog (fun _ _ _ _ => none) 113 [.int .i64 9] = some (.str ⟨⟨[100, 114, 45]⟩⟩) := by kernel_rfl
theorem x92_10 : xAns Tryz.prog (fun _ _ _ _ => none) 92 [.int .i64 10] = some (.tup [.agg [.str ⟨⟨[110, 111, 116]⟩⟩, .str ⟨⟨[100, 115, 45]⟩⟩], .bool true]) := by kernel_rfl
theorem x113_10 : xAns Tryz.prog (fun _ _ _ _ => none) 113 [.int .i64 10] = some (.str ⟨⟨[100, 114, 45]⟩⟩) := by kernel_rfl
theorem x92_11 : xAns Tryz.prog (fun _ _ _ _ => none) 92 [.int .i64 11] = some (.tup [.agg [.str ⟨⟨[101, 113]⟩⟩, .str ⟨⟨[100, 115, 115]⟩⟩], .bool true]) := by kernel_rfl
theorem x113_11 : xAns Tryz.prog (fun _ _ _ _ => none) 113 [.int .i64 11] = some (.str ⟨⟨[100, 114, 114]⟩⟩) := by kernel_rfl
theorem x92_12 : xAns Tryz.prog (fun _ _ _ _ => none) 92 [.int .i64 12] = some (.tup [.agg [.str ⟨⟨[110, 101]⟩⟩, .str ⟨⟨[100, 115, 115]⟩⟩], .bool true]) := by kernel_rfl
theorem x113_12 : xAns Tryz.prog (fun _ _ _ _ => none) 113 [.int .i64 12] = some (.str ⟨⟨[100, 114, 114]⟩⟩) := by kernel_rfl
theorem x92_13 : xAns Tryz.prog (fun _ _ _ _ => none) 92 [.int .i64 13] = some (.tup [.agg [.str ⟨⟨[108, 116]⟩⟩, .str ⟨⟨[100, 115, 115]⟩⟩], .bool true]) := by kernel_rfl
theorem x113_13 : xAns Tryz.prog (fun _ _ _ _ => none) 113 [.int .i64 13] = some (.str ⟨⟨[100, 114, 114]⟩⟩) := by kernel_rfl
theorem x92_14 : xAns Tryz.prog (fun _ _ _ _ => none) 92 [.int .i64 14] = some (.tup [.agg [.str ⟨⟨[108, 101]⟩⟩, .str ⟨⟨[100, 115, 115]⟩⟩], .bool true]) := by kernel_rfl
theorem x113_14 : xAns Tryz.prog (fun _ _ _ _ => none) 113 [.int .i64 14] = some (.str ⟨⟨[100, 114, 114]⟩⟩) := by kernel_rfl
theorem x92_15 : xAns Tryz.prog (fun _ _ _ _ => none) 92 [.int .i64 15] = some (.tup [.agg [.str ⟨⟨[108, 101, 110]⟩⟩, .str ⟨⟨[100, 115, 45]⟩⟩], .bool true]) := by kernel_rfl
theorem x113_15 : xAns Tryz.prog (fun _ _ _ _ => none) 113 [.int .i64 15] = some (.str ⟨⟨[100, 114, 45]⟩⟩) := by kernel_rfl
theorem x92_16 : xAns Tryz.prog (fun _ _ _ _ => none) 92 [.int .i64 16] = some (.tup [.agg [.str ⟨⟨[106, 117, 109, 112]⟩⟩, .str ⟨⟨[45, 45, 116]⟩⟩], .bool true]) := by kernel_rfl
theorem x113_16 : xAns Tryz.prog (fun _ _ _ _ => none) 113 [.int .i64 16] = some (.str ⟨⟨[45, 45, 106]⟩⟩) := by kernel_rfl
theorem x92_17 : xAns Tryz.prog (fun _ _ _ _ => none) 92 [.int .i64 17] = some (.tup [.agg [.str ⟨⟨[106, 117, 109, 112, 122]⟩⟩, .str ⟨⟨[115, 45, 116]⟩⟩], .bool true]) := by kernel_rfl
theorem x113_17 : xAns Tryz.prog (fun _ _ _ _ => none) 113 [.int .i64 17] = some (.str ⟨⟨[114, 45, 106]⟩⟩) := by kernel_rfl
theorem x92_18 : xAns Tryz.prog (fun _ _ _ _ => none) 92 [.int .i64 18] = some (.tup [.agg [.str ⟨⟨[103, 108, 111, 98, 97, 108]⟩⟩, .str ⟨⟨[100, 103, 45]⟩⟩], .bool true]) := by kernel_rfl
theorem x113_18 : xAns Tryz.prog (fun _ _ _ _ => none) 113 [.int .i64 18] = some (.str ⟨⟨[100, 103, 45]⟩⟩) := by kernel_rfl
theorem x92_19 : xAns Tryz.prog (fun _ _ _ _ => none) 92 [.int .i64 19] = some (.tup [.agg [.str ⟨⟨[102, 105, 101, 108, 100]⟩⟩, .str ⟨⟨[100, 115, 110]⟩⟩], .bool true]) := by kernel_rfl
theorem x113_19 : xAns Tryz.prog (fun _ _ _ _ => none) 113 [.int .i64 19] = some (.str ⟨⟨[100, 114, 110]⟩⟩) := by kernel_rfl
theorem x92_20 : xAns Tryz.prog (fun _ _ _ _ => none) 92 [.int .i64 20] = some (.tup [.agg [.str ⟨⟨[105, 110, 100, 101, 120]⟩⟩, .str ⟨⟨[100, 115, 115]⟩⟩], .bool true]) := by kernel_rfl
theorem x113_20 : xAns Tryz.prog (fun _ _ _ _ => none) 113 [.int .i64 20] = some (.str ⟨⟨[100, 114, 114]⟩⟩) := by kernel_rfl
theorem x92_21 : xAns Tryz.prog (fun _ _ _ _ => none) 92 [.int .i64 21] = some (.tup [.agg [.str ⟨⟨[110, 101, 119]⟩⟩, .str ⟨⟨[100, 108, 45]⟩⟩], .bool true]) := by kernel_rfl
theorem x113_21 : xAns Tryz.prog (fun _ _ _ _ => none) 113 [.int .i64 21] = some (.str ⟨⟨[100, 108, 45]⟩⟩) := by kernel_rfl
theorem x92_22 : xAns Tryz.prog (fun _ _ _ _ => none) 92 [.int .i64 22] = some (.tup [.agg [.str ⟨⟨[115, 108, 105, 99, 101]⟩⟩, .str ⟨⟨[100, 115, 45]⟩⟩], .bool true]) := by kernel_rfl
theorem x113_22 : xAns Tryz.prog (fun _ _ _ _ => none) 113 [.int .i64 22] = some (.str ⟨⟨[100, 114, 45]⟩⟩) := by kernel_rfl
theorem x92_23 : xAns Tryz.prog (fun _ _ _ _ => none) 92 [.int .i64 23] = some (.tup [.agg [.str ⟨⟨[99, 104, 97, 110]⟩⟩, .str ⟨⟨[100, 115, 45]⟩⟩], .bool true]) := by kernel_rfl
theorem x113_23 : xAns Tryz.prog (fun _ _ _ _ => none) 113 [.int .i64 23] = some (.str ⟨⟨[100, 114, 45]⟩⟩) := by kernel_rfl
theorem x92_24 : xAns Tryz.prog (fun _ _ _ _ => none) 92 [.int .i64 24] = some (.tup [.agg [.str ⟨⟨[99, 108, 111, 115, 117, 114, 101]⟩⟩, .str ⟨⟨[100, 99, 107]⟩⟩], .bool true]) := by kernel_rfl
theorem x113_24 : xAns Tryz.prog (fun _ _ _ _ => none) 113 [.int .i64 24] = some (.str ⟨⟨[100, 49, 110]⟩⟩) := by kernel_rfl
theorem x92_25 : xAns Tryz.prog (fun _ _ _ _ => none) 92 [.int .i64 25] = some (.tup [.agg [.str ⟨⟨[99, 97, 112]⟩⟩, .str ⟨⟨[100, 112, 45]⟩⟩], .bool true]) := by kernel_rfl
theorem x113_25 : xAns Tryz.prog (fun _ _ _ _ => none) 113 [.int .i64 25] = some (.str ⟨⟨[100, 110, 45]⟩⟩) := by kernel_rfl
theorem x92_26 : xAns Tryz.prog (fun _ _ _ _ => none) 92 [.int .i64 26] = some (.tup [.agg [.str ⟨⟨[99, 97, 108, 108]⟩⟩, .str ⟨⟨[68, 102, 97]⟩⟩], .bool true]) := by kernel_rfl
theorem x113_26 : xAns Tryz.prog (fun _ _ _ _ => none) 113 [.int .i64 26] = some (.str ⟨⟨[68, 102, 97]⟩⟩) := by kernel_rfl
theorem x92_27 : xAns Tryz.prog (fun _ _ _ _ => none) 92 [.int .i64 27] = some (.tup [.agg [.str ⟨⟨[99, 97, 108, 108, 99]⟩⟩, .str ⟨⟨[115, 45, 45]⟩⟩], .bool true]) := by kernel_rfl
theorem x113_27 : xAns Tryz.prog (fun _ _ _ _ => none) 113 [.int .i64 27] = some (.str ⟨⟨[114, 45, 45]⟩⟩) := by kernel_rfl
theorem x92_28 : xAns Tryz.prog (fun _ _ _ _ => none) 92 [.int .i64 28] = some (.tup [.agg [.str ⟨⟨[100, 101, 102, 101, 114]⟩⟩, .str ⟨⟨[45, 102, 97]⟩⟩], .bool true]) := by kernel_rfl
theorem x113_28 : xAns Tryz.prog (fun _ _ _ _ => none) 113 [.int .i64 28] = some (.str ⟨⟨[45, 102, 97]⟩⟩) := by kernel_rfl
theorem x92_29 : xAns Tryz.prog (fun _ _ _ _ => none) 92 [.int .i64 29] = some (.tup [.agg [.str ⟨⟨[100, 101, 102, 101, 114, 99]⟩⟩, .str ⟨⟨[115, 45, 45]⟩⟩], .bool true]) := by kernel_rfl
theorem x113_29 : xAns Tryz.prog (fun _ _ _ _ => none) 113 [.int .i64 29] = some (.str ⟨⟨[114, 45, 45]⟩⟩) := by kernel_rfl
theorem x92_30 : xAns Tryz.prog (fun _ _ _ _ => none) 92 [.int .i64 30] = some (.tup [.agg [.str ⟨⟨[114, 101, 116, 117, 114, 110]⟩⟩, .str ⟨⟨[83, 45, 45]⟩⟩], .bool true]) := by kernel_rfl
theorem x113_30 : xAns Tryz.prog (fun _ _ _ _ => none) 113 [.int .i64 30] = some (.str ⟨⟨[82, 45, 45]⟩⟩) := by kernel_rfl
theorem x92_31 : xAns Tryz.prog (fun _ _ _ _ => none) 92 [.int .i64 31] = some (.tup [.agg [.str ⟨⟨[103, 111]⟩⟩, .str ⟨⟨[45, 102, 97]⟩⟩], .bool true]) := by kernel_rfl
theorem x113_31 : xAns Tryz.prog (fun _ _ _ _ => none) 113 [.int .i64 31] = some (.str ⟨⟨[45, 102, 97]⟩⟩) := by kernel_rfl
theorem x92_32 : xAns Tryz.prog (fun _ _ _ _ => none) 92 [.int .i64 32] = some (.tup [.agg [.str ⟨⟨[103, 111, 99]⟩⟩, .str ⟨⟨[115, 45, 45]⟩⟩], .bool true]) := by kernel_rfl
theorem x113_32 : xAns Tryz.prog (fun _ _ _ _ => none) 113 [.int .i64 32] = some (.str ⟨⟨[114, 45, 45]⟩⟩) := by kernel_rfl
theorem x92_33 : xAns Tryz.prog (fun _ _ _ _ => none) 92 [.int .i64 33] = some (.tup [.agg [.str ⟨⟨[108, 111, 97, 100]⟩⟩, .str ⟨⟨[100, 115, 45]⟩⟩], .bool true]) := by kernel_rfl
theorem x113_33 : xAns Tryz.prog (fun _ _ _ _ => none) 113 [.int .i64 33] = some (.str ⟨⟨[100, 114, 45]⟩⟩) := by kernel_rfl
theorem x92_34 : xAns Tryz.prog (fun _ _ _ _ => none) 92 [.int .i64 34] = some (.tup [.agg [.str ⟨⟨[115, 116, 111, 114, 101]⟩⟩, .str ⟨⟨[115, 115, 45]⟩⟩], .bool true]) := by kernel_rfl
theorem x113_34 : xAns Tryz.prog (fun _ _ _ _ => none) 113 [.int .i64 34] = some (.str ⟨⟨[114, 114, 45]⟩⟩) := by kernel_rfl
theorem x92_35 : xAns Tryz.prog (fun _ _ _ _ => none) 92 [.int .i64 35] = some (.tup [.agg [.str ⟨⟨[97, 108, 111, 97, 100]⟩⟩, .str ⟨⟨[100, 115, 45]⟩⟩], .bool true]) := by kernel_rfl
theorem x113_35 : xAns Tryz.prog (fun _ _ _ _ => none) 113 [.int .i64 35] = some (.str ⟨⟨[100, 114, 45]⟩⟩) := by kernel_rfl
theorem x92_36 : xAns Tryz.prog (fun _ _ _ _ => none) 92 [.int .i64 36] = some (.tup [.agg [.str ⟨⟨[97, 115, 116, 111, 114, 101]⟩⟩, .str ⟨⟨[115, 115, 45]⟩⟩], .bool true]) := by kernel_rfl
theorem x113_36 : xAns Tryz.prog (fun _ _ _ _ => none) 113 [.int .i64 36] = some (.str ⟨⟨[114, 114, 45]⟩⟩) := by kernel_rfl
theorem x92_37 : xAns Tryz.prog (fun _ _ _ _ => none) 92 [.int .i64 37] = some (.tup [.agg [.str ⟨⟨[97, 97, 100, 100]⟩⟩, .str ⟨⟨[100, 115, 115]⟩⟩], .bool true]) := by kernel_rfl
theorem x113_37 : xAns Tryz.prog (fun _ _ _ _ => none) 113 [.int .i64 37] = some (.str ⟨⟨[100, 114, 114]⟩⟩) := by kernel_rfl
theorem x92_38 : xAns Tryz.prog (fun _ _ _ _ => none) 92 [.int .i64 38] = some (.tup [.agg [.str ⟨⟨[97, 99, 97, 115]⟩⟩, .str ⟨⟨[100, 115, 115]⟩⟩], .bool true]) := by kernel_rfl
theorem x113_38 : xAns Tryz.prog (fun _ _ _ _ => none) 113 [.int .i64 38] = some (.str ⟨⟨[100, 114, 114]⟩⟩) := by kernel_rfl
theorem x92_39 : xAns Tryz.prog (fun _ _ _ _ => none) 92 [.int .i64 39] = some (.tup [.agg [.str ⟨⟨[108, 111, 99, 107]⟩⟩, .str ⟨⟨[115, 45, 45]⟩⟩], .bool true]) := by kernel_rfl
theorem x113_39 : xAns Tryz.prog (fun _ _ _ _ => none) 113 [.int .i64 39] = some (.str ⟨⟨[114, 45, 45]⟩⟩) := by kernel_rfl
theorem x92_40 : xAns Tryz.prog (fun _ _ _ _ => none) 92 [.int .i64 40] = some (.tup [.agg [.str ⟨⟨[117, 110, 108, 111, 99, 107]⟩⟩, .str ⟨⟨[115, 45, 45]⟩⟩], .bool true]) := by kernel_rfl
theorem x113_40 : xAns Tryz.prog (fun _ _ _ _ => none) 113 [.int .i64 40] = some (.str ⟨⟨[114, 45, 45]⟩⟩) := by kernel_rfl
theorem x92_41 : xAns Tryz.prog (fun _ _ _ _ => none) 92 [.int .i64 41] = some (.tup [.agg [.str ⟨⟨[114, 108, 111, 99, 107]⟩⟩, .str ⟨⟨[115, 45, 45]⟩⟩], .bool true]) := by kernel_rfl
theorem x113_41 : xAns Tryz.prog (fun _ _ _ _ => none) 113 [.int .i64 41] = some (.str ⟨⟨[114, 45, 45]⟩⟩) := by kernel_rfl
theorem x92_42 : xAns Tryz.prog (fun _ _ _ _ => none) 92 [.int .i64 42] = some (.tup [.agg [.str ⟨⟨[114, 117, 110, 108, 111, 99, 107]⟩⟩, .str ⟨⟨[115, 45, 45]⟩⟩], .bool true]) := by kernel_rfl
theorem x113_42 : xAns Tryz.prog (fun _ _ _ _ => none) 113 [.int .i64 42] = some (.str ⟨⟨[114, 45, 45]⟩⟩) := by kernel_rfl
theorem x92_43 : xAns Tryz.prog (fun _ _ _ _ => none) 92 [.int .i64 43] = some (.tup [.agg [.str ⟨⟨[103, 114, 111, 117, 112]⟩⟩, .str ⟨⟨[115, 115, 45]⟩⟩], .bool true]) := by kernel_rfl
theorem x113_43 : xAns Tryz.prog (fun _ _ _ _ => none) 113 [.int .i64 43] = some (.str ⟨⟨[114, 114, 45]⟩⟩) := by kernel_rfl
theorem x92_44 : xAns Tryz.prog (fun _ _ _ _ => none) 92 [.int .i64 44] = some (.tup [.agg [.str ⟨⟨[119, 97, 105, 116]⟩⟩, .str ⟨⟨[115, 45, 45]⟩⟩], .bool true]) := by kernel_rfl
theorem x113_44 : xAns Tryz.prog (fun _ _ _ _ => none) 113 [.int .i64 44] = some (.str ⟨⟨[114, 45, 45]⟩⟩) := by kernel_rfl
theorem x92_45 : xAns Tryz.prog (fun _ _ _ _ => none) 92 [.int .i64 45] = some (.tup [.agg [.str ⟨⟨[111, 110, 99, 101]⟩⟩, .str ⟨⟨[115, 45, 116]⟩⟩], .bool true]) := by kernel_rfl
theorem x113_45 : xAns Tryz.prog (fun _ _ _ _ => none) 113 [.int .i64 45] = some (.str ⟨⟨[114, 45, 106]⟩⟩) := by kernel_rfl
theorem x92_46 : xAns Tryz.prog (fun _ _ _ _ => none) 92 [.int .i64 46] = some (.tup [.agg [.str ⟨⟨[111, 110, 99, 101, 101, 110, 100]⟩⟩, .str ⟨⟨[115, 45, 45]⟩⟩], .bool true]) := by kernel_rfl
theorem x113_46 : xAns Tryz.prog (fun _ _ _ _ => none) 113 [.int .i64 46] = some (.str ⟨⟨[114, 45, 45]⟩⟩) := by kernel_rfl
theorem x92_47 : xAns Tryz.prog (fun _ _ _ _ => none) 92 [.int .i64 47] = some (.tup [.agg [.str ⟨⟨[115, 101, 110, 100]⟩⟩, .str ⟨⟨[115, 115, 45]⟩⟩], .bool true]) := by kernel_rfl
theorem x113_47 : xAns Tryz.prog (fun _ _ _ _ => none) 113 [.int .i64 47] = some (.str ⟨⟨[114, 114, 45]⟩⟩) := by kernel_rfl
theorem x92_48 : xAns Tryz.prog (fun _ _ _ _ => none) 92 [.int .i64 48] = some (.tup [.agg [.str ⟨⟨[114, 101, 99, 118]⟩⟩, .str ⟨⟨[68, 115, 68]⟩⟩], .bool true]) := by kernel_rfl
theorem x113_48 : xAns Tryz.prog (fun _ _ _ _ => none) 113 [.int .i64 48] = some (.str ⟨⟨[68, 114, 68]⟩⟩) := by kernel_rfl
theorem x92_49 : xAns Tryz.prog (fun _ _ _ _ => none) 92 [.int .i64 49] = some (.tup [.agg [.str ⟨⟨[99, 108, 111, 115, 101]⟩⟩, .str ⟨⟨[115, 45, 45]⟩⟩], .bool true]) := by kernel_rfl
theorem x113_49 : xAns Tryz.prog (fun _ _ _ _ => none) 113 [.int .i64 49] = some (.str ⟨⟨[114, 45, 45]⟩⟩) := by kernel_rfl
theorem x92_50 : xAns Tryz.prog (fun _ _ _ _ => none) 92 [.int .i64 50] = some (.tup [.agg [.str ⟨⟨[115, 101, 108, 101, 99, 116]⟩⟩, .str ⟨⟨[100, 120, 98]⟩⟩], .bool true]) := by kernel_rfl
theorem x113_50 : xAns Tryz.prog (fun _ _ _ _ => none) 113 [.int .i64 50] = some (.str ⟨⟨[100, 115, 98]⟩⟩) := by kernel_rfl
theorem x92_51 : xAns Tryz.prog (fun _ _ _ _ => none) 92 [.int .i64 51] = some (.tup [.agg [.str ⟨⟨[99, 97, 115, 101]⟩⟩, .str ⟨⟨[115, 98, 118]⟩⟩], .bool true]) := by kernel_rfl
theorem x113_51 : xAns Tryz.prog (fun _ _ _ _ => none) 113 [.int .i64 51] = some (.str ⟨⟨[114, 98, 99]⟩⟩) := by kernel_rfl
theorem x92_52 : xAns Tryz.prog (fun _ _ _ _ => none) 92 [.int .i64 52] = some (.tup [.agg [.str ⟨⟨[112, 114, 105, 110, 116]⟩⟩, .str ⟨⟨[115, 45, 45]⟩⟩], .bool true]) := by kernel_rfl
theorem x113_52 : xAns Tryz.prog (fun _ _ _ _ => none) 113 [.int .i64 52] = some (.str ⟨⟨[114, 45, 45]⟩⟩) := by kernel_rfl
end Go.Gc
