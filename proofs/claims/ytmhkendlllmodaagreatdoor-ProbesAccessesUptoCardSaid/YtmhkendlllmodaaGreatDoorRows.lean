/-
  NARROWER THAN 'FOR EVERY INPUT', by the rows' own cells (each row's printed sentence says how): ProbesAccesses: laid · ProbesPlan: laid · ProbesFilter: laid · ProbesKept: laid.
  DERIVED. THE GIVEN ROWS OF THIS SEAT. 4 by the template 'for every input the law returns true; each argument reads behind the call as it read before'; 0 by the template 'total and deterministic' (their statements: YtmhkendlllmodaaGreatDoorTotals.lean).
  GIVEN WITH THE SEED: the statements are not yours to turn. If you find one false, say at which input.
  Laid BY PROGRAM, IN A SANDBOX (cutbox-rows.mjs): the forced cells as the released guide's own fill.sh prints them over the translation 7fa4141e0eb5f3de… (all of the seat's roots in one cut). By AI agents, Wed Nov 11 2026. No macro, syntax, notation, axiom, sorry.
-/
import Derived.Test.YtmhkendlllmodaaGreatDoorChecked
import GoSem.Claim
import GoSem.ClaimJoined
import GoSem.ClaimMapViews
import Derived.JoinedTies
import Derived.KernelRfl
namespace Go.Proofs.YtmhkendlllmodaaGreatDoor
/- THE CELL 'sum', in the pinned program and in every row, IS THE sha256 OF THE DUMP (.gsa) THAT YtmhkendlllmodaaGreatDoorProg.lean LOADS. Nothing in Lean hashes anything: it is a label: what it is worth is what the hold of that sum in a sandbox is worth. -/
noncomputable def Tryz.pinned : Pinned := { name := "ytmhkendlllmodaagreatdoor", sum := "7fa4141e0eb5f3dea34b52455dab5d5633d15153c47cb3b20251edb687cf69ac", checked := Tryz.checked }
namespace Rows
def none {H : Type} : Left H := { results := [], args := [] }

/- WHAT THE LISTED PACKAGE-LEVEL VARIABLES READ AS WHEN THE CALL BEGINS. Each datum BY PROGRAM (the guide's laid-datum.mjs) off the statement by which the dump's own 'gosem.cut.vars' lays the variable. In a bare row this is a premise. The card (YtmhkendlllmodaaGreatDoorCards.lean) ties it to the program's text. -/
def laid_math_bits_deBruijn64tab {H : Type} : DataW H := .agg [.lit (.int .u8 0), .lit (.int .u8 1), .lit (.int .u8 56), .lit (.int .u8 2), .lit (.int .u8 57), .lit (.int .u8 49), .lit (.int .u8 28), .lit (.int .u8 3), .lit (.int .u8 61), .lit (.int .u8 58), .lit (.int .u8 42), .lit (.int .u8 50), .lit (.int .u8 38), .lit (.int .u8 29), .lit (.int .u8 17), .lit (.int .u8 4), .lit (.int .u8 62), .lit (.int .u8 47), .lit (.int .u8 59), .lit (.int .u8 36), .lit (.int .u8 45), .lit (.int .u8 43), .lit (.int .u8 51), .lit (.int .u8 22), .lit (.int .u8 53), .lit (.int .u8 39), .lit (.int .u8 33), .lit (.int .u8 30), .lit (.int .u8 24), .lit (.int .u8 18), .lit (.int .u8 12), .lit (.int .u8 5), .lit (.int .u8 63), .lit (.int .u8 55), .lit (.int .u8 48), .lit (.int .u8 27), .lit (.int .u8 60), .lit (.int .u8 41), .lit (.int .u8 37), .lit (.int .u8 16), .lit (.int .u8 46), .lit (.int .u8 35), .lit (.int .u8 44), .lit (.int .u8 21), .lit (.int .u8 52), .lit (.int .u8 32), .lit (.int .u8 23), .lit (.int .u8 11), .lit (.int .u8 54), .lit (.int .u8 26), .lit (.int .u8 40), .lit (.int .u8 15), .lit (.int .u8 34), .lit (.int .u8 20), .lit (.int .u8 31), .lit (.int .u8 10), .lit (.int .u8 25), .lit (.int .u8 14), .lit (.int .u8 19), .lit (.int .u8 9), .lit (.int .u8 13), .lit (.int .u8 8), .lit (.int .u8 7), .lit (.int .u8 6)]

/-- 'interleavelaw46.ProbesAccesses': WHATEVER THE INPUT: true; the input reads as it did. -/
def probesAccessesSpec : ChangeSpec := { name := "probesAccesses", fn := fun _ => fun
  | [d] => { results := [.lit (.bool true)], args := [d] }
  | _ => none }
def probesAccessesRow : OpenClaim := { program := "ytmhkendlllmodaagreatdoor", sum := "7fa4141e0eb5f3dea34b52455dab5d5633d15153c47cb3b20251edb687cf69ac", func := "interleave/interleavelaw46.ProbesAccesses", spec := "probesAccesses", unfollowed := true, recurses := true, named := ["math/bits.deBruijn64tab"], plainKeys := false, apart := false, laid := [("math/bits.deBruijn64tab", laid_math_bits_deBruijn64tab)] }
def ProbesAccessesSaid : Prop := probesAccessesRow.holds Tryz.pinned (OpenSpec.ofChange probesAccessesSpec)

/-- ITS FALSE NEIGHBOUR: 'it returns false'. Refute it at one input. -/
def probesAccessesWrong : ChangeSpec := { name := "probesAccesses", fn := fun _ => fun
  | [d] => { results := [.lit (.bool false)], args := [d] }
  | _ => none }
def ProbesAccessesWrongFalsely : Prop := probesAccessesRow.holds Tryz.pinned (OpenSpec.ofChange probesAccessesWrong)

/-- 'interleavelaw46.ProbesPlan': WHATEVER THE INPUT: true; the input reads as it did. -/
def probesPlanSpec : ChangeSpec := { name := "probesPlan", fn := fun _ => fun
  | [d] => { results := [.lit (.bool true)], args := [d] }
  | _ => none }
def probesPlanRow : OpenClaim := { program := "ytmhkendlllmodaagreatdoor", sum := "7fa4141e0eb5f3dea34b52455dab5d5633d15153c47cb3b20251edb687cf69ac", func := "interleave/interleavelaw46.ProbesPlan", spec := "probesPlan", unfollowed := true, recurses := true, named := ["math/bits.deBruijn64tab"], plainKeys := false, apart := false, laid := [("math/bits.deBruijn64tab", laid_math_bits_deBruijn64tab)] }
def ProbesPlanSaid : Prop := probesPlanRow.holds Tryz.pinned (OpenSpec.ofChange probesPlanSpec)

/-- ITS FALSE NEIGHBOUR: 'it returns false'. Refute it at one input. -/
def probesPlanWrong : ChangeSpec := { name := "probesPlan", fn := fun _ => fun
  | [d] => { results := [.lit (.bool false)], args := [d] }
  | _ => none }
def ProbesPlanWrongFalsely : Prop := probesPlanRow.holds Tryz.pinned (OpenSpec.ofChange probesPlanWrong)

/-- 'interleavelaw46.ProbesFilter': WHATEVER THE INPUT: true; the input reads as it did. -/
def probesFilterSpec : ChangeSpec := { name := "probesFilter", fn := fun _ => fun
  | [d1, d2] => { results := [.lit (.bool true)], args := [d1, d2] }
  | _ => none }
def probesFilterRow : OpenClaim := { program := "ytmhkendlllmodaagreatdoor", sum := "7fa4141e0eb5f3dea34b52455dab5d5633d15153c47cb3b20251edb687cf69ac", func := "interleave/interleavelaw46.ProbesFilter", spec := "probesFilter", unfollowed := true, recurses := true, named := ["math/bits.deBruijn64tab"], plainKeys := false, apart := false, laid := [("math/bits.deBruijn64tab", laid_math_bits_deBruijn64tab)] }
def ProbesFilterSaid : Prop := probesFilterRow.holds Tryz.pinned (OpenSpec.ofChange probesFilterSpec)

/-- ITS FALSE NEIGHBOUR: 'it returns false'. Refute it at one input. -/
def probesFilterWrong : ChangeSpec := { name := "probesFilter", fn := fun _ => fun
  | [d1, d2] => { results := [.lit (.bool false)], args := [d1, d2] }
  | _ => none }
def ProbesFilterWrongFalsely : Prop := probesFilterRow.holds Tryz.pinned (OpenSpec.ofChange probesFilterWrong)

/-- 'interleavelaw46.ProbesKept': WHATEVER THE INPUT: true; the input reads as it did. -/
def probesKeptSpec : ChangeSpec := { name := "probesKept", fn := fun _ => fun
  | [d1, d2] => { results := [.lit (.bool true)], args := [d1, d2] }
  | _ => none }
def probesKeptRow : OpenClaim := { program := "ytmhkendlllmodaagreatdoor", sum := "7fa4141e0eb5f3dea34b52455dab5d5633d15153c47cb3b20251edb687cf69ac", func := "interleave/interleavelaw46.ProbesKept", spec := "probesKept", unfollowed := true, recurses := true, named := ["math/bits.deBruijn64tab"], plainKeys := false, apart := false, laid := [("math/bits.deBruijn64tab", laid_math_bits_deBruijn64tab)] }
def ProbesKeptSaid : Prop := probesKeptRow.holds Tryz.pinned (OpenSpec.ofChange probesKeptSpec)

/-- ITS FALSE NEIGHBOUR: 'it returns false'. Refute it at one input. -/
def probesKeptWrong : ChangeSpec := { name := "probesKept", fn := fun _ => fun
  | [d1, d2] => { results := [.lit (.bool false)], args := [d1, d2] }
  | _ => none }
def ProbesKeptWrongFalsely : Prop := probesKeptRow.holds Tryz.pinned (OpenSpec.ofChange probesKeptWrong)

/- THE SECOND FORM. 'bulk': how many values and letters a reading holds, each counted each time it is reached (what is shared counts as often as it is met; a slice's spare places count too). A statement '..UptoSaid' is the law's where the arguments, and the package variables that the reading takes, are together of bulk at most 1048576: NARROWER than '..Said'. Prove '..Said' where nothing that the law and all that it calls make is longer than what came in: it says more and counts as full. Else prove '..UptoSaid'. A law counts once. -/
mutual
def uptoBulk {H : Type} : DataW H → Nat
  | .lit (.string bytes) => bytes.length + 1
  | .lit _ => 1
  | .nil => 1
  | .ptr d => uptoBulk d + 1
  | .slice elems spare => uptoBulkAll elems + uptoBulkAll spare + 1
  | .agg parts => uptoBulkAll parts + 1
  | .iface _ d => uptoBulk d + 1
  | .map entries => uptoBulkEntries entries + 1
  | .held _ => 1
def uptoBulkAll {H : Type} : List (DataW H) → Nat
  | [] => 0
  | d :: r => uptoBulk d + uptoBulkAll r
def uptoBulkEntries {H : Type} : List (Lit × DataW H) → Nat
  | [] => 0
  | x :: r => uptoBulkEntry x + uptoBulkEntries r
def uptoBulkEntry {H : Type} : Lit × DataW H → Nat
  | (.string bytes, d) => bytes.length + uptoBulk d + 1
  | (_, d) => uptoBulk d + 1
 end
def uptoSmall : (H : Type) → List (DataW H) → Bool := fun _ ds => decide (uptoBulkAll ds ≤ 1048576)
def OpenSpec.upto (s : _root_.Go.ChangeSpec) : _root_.Go.OpenSpec := { _root_.Go.OpenSpec.ofChange s with cond := some uptoSmall }

/-- 'interleavelaw46.ProbesAccesses', WHERE WHAT IT READS IS OF BULK AT MOST 1048576: true; the input reads as it did. -/
def probesAccessesUptoRow : OpenClaim := { program := "ytmhkendlllmodaagreatdoor", sum := "7fa4141e0eb5f3dea34b52455dab5d5633d15153c47cb3b20251edb687cf69ac", func := "interleave/interleavelaw46.ProbesAccesses", spec := "probesAccesses", unfollowed := true, recurses := true, named := ["math/bits.deBruijn64tab"], plainKeys := false, apart := false, laid := [("math/bits.deBruijn64tab", laid_math_bits_deBruijn64tab)], narrowed := true }
def ProbesAccessesUptoSaid : Prop := probesAccessesUptoRow.holds Tryz.pinned (OpenSpec.upto probesAccessesSpec)

/-- 'interleavelaw46.ProbesPlan', WHERE WHAT IT READS IS OF BULK AT MOST 1048576: true; the input reads as it did. -/
def probesPlanUptoRow : OpenClaim := { program := "ytmhkendlllmodaagreatdoor", sum := "7fa4141e0eb5f3dea34b52455dab5d5633d15153c47cb3b20251edb687cf69ac", func := "interleave/interleavelaw46.ProbesPlan", spec := "probesPlan", unfollowed := true, recurses := true, named := ["math/bits.deBruijn64tab"], plainKeys := false, apart := false, laid := [("math/bits.deBruijn64tab", laid_math_bits_deBruijn64tab)], narrowed := true }
def ProbesPlanUptoSaid : Prop := probesPlanUptoRow.holds Tryz.pinned (OpenSpec.upto probesPlanSpec)

/-- 'interleavelaw46.ProbesFilter', WHERE WHAT IT READS IS OF BULK AT MOST 1048576: true; the input reads as it did. -/
def probesFilterUptoRow : OpenClaim := { program := "ytmhkendlllmodaagreatdoor", sum := "7fa4141e0eb5f3dea34b52455dab5d5633d15153c47cb3b20251edb687cf69ac", func := "interleave/interleavelaw46.ProbesFilter", spec := "probesFilter", unfollowed := true, recurses := true, named := ["math/bits.deBruijn64tab"], plainKeys := false, apart := false, laid := [("math/bits.deBruijn64tab", laid_math_bits_deBruijn64tab)], narrowed := true }
def ProbesFilterUptoSaid : Prop := probesFilterUptoRow.holds Tryz.pinned (OpenSpec.upto probesFilterSpec)

/-- 'interleavelaw46.ProbesKept', WHERE WHAT IT READS IS OF BULK AT MOST 1048576: true; the input reads as it did. -/
def probesKeptUptoRow : OpenClaim := { program := "ytmhkendlllmodaagreatdoor", sum := "7fa4141e0eb5f3dea34b52455dab5d5633d15153c47cb3b20251edb687cf69ac", func := "interleave/interleavelaw46.ProbesKept", spec := "probesKept", unfollowed := true, recurses := true, named := ["math/bits.deBruijn64tab"], plainKeys := false, apart := false, laid := [("math/bits.deBruijn64tab", laid_math_bits_deBruijn64tab)], narrowed := true }
def ProbesKeptUptoSaid : Prop := probesKeptUptoRow.holds Tryz.pinned (OpenSpec.upto probesKeptSpec)

end Rows
end Go.Proofs.YtmhkendlllmodaaGreatDoor
