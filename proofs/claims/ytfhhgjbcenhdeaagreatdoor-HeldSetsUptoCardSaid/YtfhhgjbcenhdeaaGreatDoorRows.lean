/-
  NARROWER THAN 'FOR EVERY INPUT', by the rows' own cells (each row's printed sentence says how): HeldSets: laid · HeldFlow: laid · HeldDiscipline: laid · JustifyOne: laid · JustifyCheck: laid · JustifyPlan: laid · JustifyMonotone: laid · ProbesPlan: laid.
  DERIVED. THE GIVEN ROWS OF THIS SEAT. 8 by the template 'for every input the law returns true; each argument reads behind the call as it read before'; 0 by the template 'total and deterministic' (their statements: YtfhhgjbcenhdeaaGreatDoorTotals.lean).
  GIVEN WITH THE SEED: the statements are not yours to turn. If you find one false, say at which input.
  Laid BY PROGRAM, IN A SANDBOX (cutbox-rows.mjs): the forced cells as the released guide's own fill.sh prints them over the translation f65d9324a38486f7… (all of the seat's roots in one cut). By AI agents, Wed Nov 11 2026. No macro, syntax, notation, axiom, sorry.
-/
import Derived.Test.YtfhhgjbcenhdeaaGreatDoorChecked
import GoSem.Claim
import GoSem.ClaimJoined
import GoSem.ClaimMapViews
import Derived.JoinedTies
import Derived.KernelRfl
namespace Go.Proofs.YtfhhgjbcenhdeaaGreatDoor
/- THE CELL 'sum', in the pinned program and in every row, IS THE sha256 OF THE DUMP (.gsa) THAT YtfhhgjbcenhdeaaGreatDoorProg.lean LOADS. Nothing in Lean hashes anything: it is a label: what it is worth is what the hold of that sum in a sandbox is worth. -/
noncomputable def Tryz.pinned : Pinned := { name := "ytfhhgjbcenhdeaagreatdoor", sum := "f65d9324a38486f7b0ae439c6d7f7e8faa1562fc3bcbf617a4b847810159d068", checked := Tryz.checked }
namespace Rows
def none {H : Type} : Left H := { results := [], args := [] }

/- WHAT THE LISTED PACKAGE-LEVEL VARIABLES READ AS WHEN THE CALL BEGINS. Each datum BY PROGRAM (the guide's laid-datum.mjs) off the statement by which the dump's own 'gosem.cut.vars' lays the variable. In a bare row this is a premise. The card (YtfhhgjbcenhdeaaGreatDoorCards.lean) ties it to the program's text. -/
def laid_math_bits_deBruijn64tab {H : Type} : DataW H := .agg [.lit (.int .u8 0), .lit (.int .u8 1), .lit (.int .u8 56), .lit (.int .u8 2), .lit (.int .u8 57), .lit (.int .u8 49), .lit (.int .u8 28), .lit (.int .u8 3), .lit (.int .u8 61), .lit (.int .u8 58), .lit (.int .u8 42), .lit (.int .u8 50), .lit (.int .u8 38), .lit (.int .u8 29), .lit (.int .u8 17), .lit (.int .u8 4), .lit (.int .u8 62), .lit (.int .u8 47), .lit (.int .u8 59), .lit (.int .u8 36), .lit (.int .u8 45), .lit (.int .u8 43), .lit (.int .u8 51), .lit (.int .u8 22), .lit (.int .u8 53), .lit (.int .u8 39), .lit (.int .u8 33), .lit (.int .u8 30), .lit (.int .u8 24), .lit (.int .u8 18), .lit (.int .u8 12), .lit (.int .u8 5), .lit (.int .u8 63), .lit (.int .u8 55), .lit (.int .u8 48), .lit (.int .u8 27), .lit (.int .u8 60), .lit (.int .u8 41), .lit (.int .u8 37), .lit (.int .u8 16), .lit (.int .u8 46), .lit (.int .u8 35), .lit (.int .u8 44), .lit (.int .u8 21), .lit (.int .u8 52), .lit (.int .u8 32), .lit (.int .u8 23), .lit (.int .u8 11), .lit (.int .u8 54), .lit (.int .u8 26), .lit (.int .u8 40), .lit (.int .u8 15), .lit (.int .u8 34), .lit (.int .u8 20), .lit (.int .u8 31), .lit (.int .u8 10), .lit (.int .u8 25), .lit (.int .u8 14), .lit (.int .u8 19), .lit (.int .u8 9), .lit (.int .u8 13), .lit (.int .u8 8), .lit (.int .u8 7), .lit (.int .u8 6)]
def laid_interleave_justify_verifiers {H : Type} : DataW H := .agg [.iface "interleave/justify.kept" (.agg []), .iface "interleave/justify.owned" (.agg []), .iface "interleave/justify.early" (.agg []), .iface "interleave/justify.guarded" (.agg []), .iface "interleave/justify.repeated" (.agg [])]

/-- 'interleavelaw45.HeldSets': WHATEVER THE INPUT: true; the input reads as it did. -/
def heldSetsSpec : ChangeSpec := { name := "heldSets", fn := fun _ => fun
  | [d1, d2] => { results := [.lit (.bool true)], args := [d1, d2] }
  | _ => none }
def heldSetsRow : OpenClaim := { program := "ytfhhgjbcenhdeaagreatdoor", sum := "f65d9324a38486f7b0ae439c6d7f7e8faa1562fc3bcbf617a4b847810159d068", func := "interleave/interleavelaw45.HeldSets", spec := "heldSets", unfollowed := true, recurses := true, named := ["math/bits.deBruijn64tab"], plainKeys := false, apart := false, laid := [("math/bits.deBruijn64tab", laid_math_bits_deBruijn64tab)] }
def HeldSetsSaid : Prop := heldSetsRow.holds Tryz.pinned (OpenSpec.ofChange heldSetsSpec)

/-- ITS FALSE NEIGHBOUR: 'it returns false'. Refute it at one input. -/
def heldSetsWrong : ChangeSpec := { name := "heldSets", fn := fun _ => fun
  | [d1, d2] => { results := [.lit (.bool false)], args := [d1, d2] }
  | _ => none }
def HeldSetsWrongFalsely : Prop := heldSetsRow.holds Tryz.pinned (OpenSpec.ofChange heldSetsWrong)

/-- 'interleavelaw45.HeldFlow': WHATEVER THE INPUT: true; the input reads as it did. -/
def heldFlowSpec : ChangeSpec := { name := "heldFlow", fn := fun _ => fun
  | [d] => { results := [.lit (.bool true)], args := [d] }
  | _ => none }
def heldFlowRow : OpenClaim := { program := "ytfhhgjbcenhdeaagreatdoor", sum := "f65d9324a38486f7b0ae439c6d7f7e8faa1562fc3bcbf617a4b847810159d068", func := "interleave/interleavelaw45.HeldFlow", spec := "heldFlow", unfollowed := true, recurses := true, named := ["math/bits.deBruijn64tab"], plainKeys := false, apart := false, laid := [("math/bits.deBruijn64tab", laid_math_bits_deBruijn64tab)] }
def HeldFlowSaid : Prop := heldFlowRow.holds Tryz.pinned (OpenSpec.ofChange heldFlowSpec)

/-- ITS FALSE NEIGHBOUR: 'it returns false'. Refute it at one input. -/
def heldFlowWrong : ChangeSpec := { name := "heldFlow", fn := fun _ => fun
  | [d] => { results := [.lit (.bool false)], args := [d] }
  | _ => none }
def HeldFlowWrongFalsely : Prop := heldFlowRow.holds Tryz.pinned (OpenSpec.ofChange heldFlowWrong)

/-- 'interleavelaw45.HeldDiscipline': WHATEVER THE INPUT: true; the input reads as it did. -/
def heldDisciplineSpec : ChangeSpec := { name := "heldDiscipline", fn := fun _ => fun
  | [d1, d2] => { results := [.lit (.bool true)], args := [d1, d2] }
  | _ => none }
def heldDisciplineRow : OpenClaim := { program := "ytfhhgjbcenhdeaagreatdoor", sum := "f65d9324a38486f7b0ae439c6d7f7e8faa1562fc3bcbf617a4b847810159d068", func := "interleave/interleavelaw45.HeldDiscipline", spec := "heldDiscipline", unfollowed := true, recurses := true, named := ["math/bits.deBruijn64tab"], plainKeys := false, apart := false, laid := [("math/bits.deBruijn64tab", laid_math_bits_deBruijn64tab)] }
def HeldDisciplineSaid : Prop := heldDisciplineRow.holds Tryz.pinned (OpenSpec.ofChange heldDisciplineSpec)

/-- ITS FALSE NEIGHBOUR: 'it returns false'. Refute it at one input. -/
def heldDisciplineWrong : ChangeSpec := { name := "heldDiscipline", fn := fun _ => fun
  | [d1, d2] => { results := [.lit (.bool false)], args := [d1, d2] }
  | _ => none }
def HeldDisciplineWrongFalsely : Prop := heldDisciplineRow.holds Tryz.pinned (OpenSpec.ofChange heldDisciplineWrong)

/-- 'interleavelaw47.JustifyOne': WHATEVER THE INPUT: true; the input reads as it did. -/
def justifyOneSpec : ChangeSpec := { name := "justifyOne", fn := fun _ => fun
  | [d1, d2, d3] => { results := [.lit (.bool true)], args := [d1, d2, d3] }
  | _ => none }
def justifyOneRow : OpenClaim := { program := "ytfhhgjbcenhdeaagreatdoor", sum := "f65d9324a38486f7b0ae439c6d7f7e8faa1562fc3bcbf617a4b847810159d068", func := "interleave/interleavelaw47.JustifyOne", spec := "justifyOne", unfollowed := true, recurses := true, named := ["interleave/justify.verifiers"], plainKeys := false, apart := false, laid := [("interleave/justify.verifiers", laid_interleave_justify_verifiers)] }
def JustifyOneSaid : Prop := justifyOneRow.holds Tryz.pinned (OpenSpec.ofChange justifyOneSpec)

/-- ITS FALSE NEIGHBOUR: 'it returns false'. Refute it at one input. -/
def justifyOneWrong : ChangeSpec := { name := "justifyOne", fn := fun _ => fun
  | [d1, d2, d3] => { results := [.lit (.bool false)], args := [d1, d2, d3] }
  | _ => none }
def JustifyOneWrongFalsely : Prop := justifyOneRow.holds Tryz.pinned (OpenSpec.ofChange justifyOneWrong)

/-- 'interleavelaw47.JustifyCheck': WHATEVER THE INPUT: true; the input reads as it did. -/
def justifyCheckSpec : ChangeSpec := { name := "justifyCheck", fn := fun _ => fun
  | [d1, d2] => { results := [.lit (.bool true)], args := [d1, d2] }
  | _ => none }
def justifyCheckRow : OpenClaim := { program := "ytfhhgjbcenhdeaagreatdoor", sum := "f65d9324a38486f7b0ae439c6d7f7e8faa1562fc3bcbf617a4b847810159d068", func := "interleave/interleavelaw47.JustifyCheck", spec := "justifyCheck", unfollowed := true, recurses := true, named := ["interleave/justify.verifiers"], plainKeys := false, apart := false, laid := [("interleave/justify.verifiers", laid_interleave_justify_verifiers)] }
def JustifyCheckSaid : Prop := justifyCheckRow.holds Tryz.pinned (OpenSpec.ofChange justifyCheckSpec)

/-- ITS FALSE NEIGHBOUR: 'it returns false'. Refute it at one input. -/
def justifyCheckWrong : ChangeSpec := { name := "justifyCheck", fn := fun _ => fun
  | [d1, d2] => { results := [.lit (.bool false)], args := [d1, d2] }
  | _ => none }
def JustifyCheckWrongFalsely : Prop := justifyCheckRow.holds Tryz.pinned (OpenSpec.ofChange justifyCheckWrong)

/-- 'interleavelaw47.JustifyPlan': WHATEVER THE INPUT: true; the input reads as it did. -/
def justifyPlanSpec : ChangeSpec := { name := "justifyPlan", fn := fun _ => fun
  | [d1, d2] => { results := [.lit (.bool true)], args := [d1, d2] }
  | _ => none }
def justifyPlanRow : OpenClaim := { program := "ytfhhgjbcenhdeaagreatdoor", sum := "f65d9324a38486f7b0ae439c6d7f7e8faa1562fc3bcbf617a4b847810159d068", func := "interleave/interleavelaw47.JustifyPlan", spec := "justifyPlan", unfollowed := true, recurses := true, named := ["interleave/justify.verifiers"], plainKeys := false, apart := false, laid := [("interleave/justify.verifiers", laid_interleave_justify_verifiers)] }
def JustifyPlanSaid : Prop := justifyPlanRow.holds Tryz.pinned (OpenSpec.ofChange justifyPlanSpec)

/-- ITS FALSE NEIGHBOUR: 'it returns false'. Refute it at one input. -/
def justifyPlanWrong : ChangeSpec := { name := "justifyPlan", fn := fun _ => fun
  | [d1, d2] => { results := [.lit (.bool false)], args := [d1, d2] }
  | _ => none }
def JustifyPlanWrongFalsely : Prop := justifyPlanRow.holds Tryz.pinned (OpenSpec.ofChange justifyPlanWrong)

/-- 'interleavelaw47.JustifyMonotone': WHATEVER THE INPUT: true; the input reads as it did. -/
def justifyMonotoneSpec : ChangeSpec := { name := "justifyMonotone", fn := fun _ => fun
  | [d1, d2, d3] => { results := [.lit (.bool true)], args := [d1, d2, d3] }
  | _ => none }
def justifyMonotoneRow : OpenClaim := { program := "ytfhhgjbcenhdeaagreatdoor", sum := "f65d9324a38486f7b0ae439c6d7f7e8faa1562fc3bcbf617a4b847810159d068", func := "interleave/interleavelaw47.JustifyMonotone", spec := "justifyMonotone", unfollowed := true, recurses := true, named := ["interleave/justify.verifiers"], plainKeys := false, apart := false, laid := [("interleave/justify.verifiers", laid_interleave_justify_verifiers)] }
def JustifyMonotoneSaid : Prop := justifyMonotoneRow.holds Tryz.pinned (OpenSpec.ofChange justifyMonotoneSpec)

/-- ITS FALSE NEIGHBOUR: 'it returns false'. Refute it at one input. -/
def justifyMonotoneWrong : ChangeSpec := { name := "justifyMonotone", fn := fun _ => fun
  | [d1, d2, d3] => { results := [.lit (.bool false)], args := [d1, d2, d3] }
  | _ => none }
def JustifyMonotoneWrongFalsely : Prop := justifyMonotoneRow.holds Tryz.pinned (OpenSpec.ofChange justifyMonotoneWrong)

/-- 'interleavelaw46.ProbesPlan': WHATEVER THE INPUT: true; the input reads as it did. -/
def probesPlanSpec : ChangeSpec := { name := "probesPlan", fn := fun _ => fun
  | [d] => { results := [.lit (.bool true)], args := [d] }
  | _ => none }
def probesPlanRow : OpenClaim := { program := "ytfhhgjbcenhdeaagreatdoor", sum := "f65d9324a38486f7b0ae439c6d7f7e8faa1562fc3bcbf617a4b847810159d068", func := "interleave/interleavelaw46.ProbesPlan", spec := "probesPlan", unfollowed := true, recurses := true, named := ["math/bits.deBruijn64tab"], plainKeys := false, apart := false, laid := [("math/bits.deBruijn64tab", laid_math_bits_deBruijn64tab)] }
def ProbesPlanSaid : Prop := probesPlanRow.holds Tryz.pinned (OpenSpec.ofChange probesPlanSpec)

/-- ITS FALSE NEIGHBOUR: 'it returns false'. Refute it at one input. -/
def probesPlanWrong : ChangeSpec := { name := "probesPlan", fn := fun _ => fun
  | [d] => { results := [.lit (.bool false)], args := [d] }
  | _ => none }
def ProbesPlanWrongFalsely : Prop := probesPlanRow.holds Tryz.pinned (OpenSpec.ofChange probesPlanWrong)

/- THE SECOND FORM. 'bulk': how many values and letters a reading holds, each counted each time it is reached (what is shared counts as often as it is met; a slice's spare places count too). A statement '..UptoSaid' is the law's where the arguments, and the package variables that the reading takes, are together of bulk at most 1048576: NARROWER than '..Said'. Prove '..Said' where nothing that the law and all that it calls make is longer than what came in: it says more and counts as full. Else prove '..UptoSaid'. A law counts once. -/
mutual
def uptoBulk {H : Type} : DataW H → Nat
  | .lit (.string bytes) => bytes.length + 1
  | .lit _ => 1
  | .nil => 1
  | .ptr d => uptoBulk d + 1
  | .slice elems spare => uptoBulkAll elems + uptoBulkAll spare + 1
  | .agg parts => uptoBulkAll parts + 1
  | .iface _ d => uptoBulk d + 1
  | .map entries => uptoBulkEntries entries + 1
  | .held _ => 1
def uptoBulkAll {H : Type} : List (DataW H) → Nat
  | [] => 0
  | d :: r => uptoBulk d + uptoBulkAll r
def uptoBulkEntries {H : Type} : List (Lit × DataW H) → Nat
  | [] => 0
  | x :: r => uptoBulkEntry x + uptoBulkEntries r
def uptoBulkEntry {H : Type} : Lit × DataW H → Nat
  | (.string bytes, d) => bytes.length + uptoBulk d + 1
  | (_, d) => uptoBulk d + 1
 end
def uptoSmall : (H : Type) → List (DataW H) → Bool := fun _ ds => decide (uptoBulkAll ds ≤ 1048576)
def OpenSpec.upto (s : _root_.Go.ChangeSpec) : _root_.Go.OpenSpec := { _root_.Go.OpenSpec.ofChange s with cond := some uptoSmall }

/-- 'interleavelaw45.HeldSets', WHERE WHAT IT READS IS OF BULK AT MOST 1048576: true; the input reads as it did. -/
def heldSetsUptoRow : OpenClaim := { program := "ytfhhgjbcenhdeaagreatdoor", sum := "f65d9324a38486f7b0ae439c6d7f7e8faa1562fc3bcbf617a4b847810159d068", func := "interleave/interleavelaw45.HeldSets", spec := "heldSets", unfollowed := true, recurses := true, named := ["math/bits.deBruijn64tab"], plainKeys := false, apart := false, laid := [("math/bits.deBruijn64tab", laid_math_bits_deBruijn64tab)], narrowed := true }
def HeldSetsUptoSaid : Prop := heldSetsUptoRow.holds Tryz.pinned (OpenSpec.upto heldSetsSpec)

/-- 'interleavelaw45.HeldFlow', WHERE WHAT IT READS IS OF BULK AT MOST 1048576: true; the input reads as it did. -/
def heldFlowUptoRow : OpenClaim := { program := "ytfhhgjbcenhdeaagreatdoor", sum := "f65d9324a38486f7b0ae439c6d7f7e8faa1562fc3bcbf617a4b847810159d068", func := "interleave/interleavelaw45.HeldFlow", spec := "heldFlow", unfollowed := true, recurses := true, named := ["math/bits.deBruijn64tab"], plainKeys := false, apart := false, laid := [("math/bits.deBruijn64tab", laid_math_bits_deBruijn64tab)], narrowed := true }
def HeldFlowUptoSaid : Prop := heldFlowUptoRow.holds Tryz.pinned (OpenSpec.upto heldFlowSpec)

/-- 'interleavelaw45.HeldDiscipline', WHERE WHAT IT READS IS OF BULK AT MOST 1048576: true; the input reads as it did. -/
def heldDisciplineUptoRow : OpenClaim := { program := "ytfhhgjbcenhdeaagreatdoor", sum := "f65d9324a38486f7b0ae439c6d7f7e8faa1562fc3bcbf617a4b847810159d068", func := "interleave/interleavelaw45.HeldDiscipline", spec := "heldDiscipline", unfollowed := true, recurses := true, named := ["math/bits.deBruijn64tab"], plainKeys := false, apart := false, laid := [("math/bits.deBruijn64tab", laid_math_bits_deBruijn64tab)], narrowed := true }
def HeldDisciplineUptoSaid : Prop := heldDisciplineUptoRow.holds Tryz.pinned (OpenSpec.upto heldDisciplineSpec)

/-- 'interleavelaw47.JustifyOne', WHERE WHAT IT READS IS OF BULK AT MOST 1048576: true; the input reads as it did. -/
def justifyOneUptoRow : OpenClaim := { program := "ytfhhgjbcenhdeaagreatdoor", sum := "f65d9324a38486f7b0ae439c6d7f7e8faa1562fc3bcbf617a4b847810159d068", func := "interleave/interleavelaw47.JustifyOne", spec := "justifyOne", unfollowed := true, recurses := true, named := ["interleave/justify.verifiers"], plainKeys := false, apart := false, laid := [("interleave/justify.verifiers", laid_interleave_justify_verifiers)], narrowed := true }
def JustifyOneUptoSaid : Prop := justifyOneUptoRow.holds Tryz.pinned (OpenSpec.upto justifyOneSpec)

/-- 'interleavelaw47.JustifyCheck', WHERE WHAT IT READS IS OF BULK AT MOST 1048576: true; the input reads as it did. -/
def justifyCheckUptoRow : OpenClaim := { program := "ytfhhgjbcenhdeaagreatdoor", sum := "f65d9324a38486f7b0ae439c6d7f7e8faa1562fc3bcbf617a4b847810159d068", func := "interleave/interleavelaw47.JustifyCheck", spec := "justifyCheck", unfollowed := true, recurses := true, named := ["interleave/justify.verifiers"], plainKeys := false, apart := false, laid := [("interleave/justify.verifiers", laid_interleave_justify_verifiers)], narrowed := true }
def JustifyCheckUptoSaid : Prop := justifyCheckUptoRow.holds Tryz.pinned (OpenSpec.upto justifyCheckSpec)

/-- 'interleavelaw47.JustifyPlan', WHERE WHAT IT READS IS OF BULK AT MOST 1048576: true; the input reads as it did. -/
def justifyPlanUptoRow : OpenClaim := { program := "ytfhhgjbcenhdeaagreatdoor", sum := "f65d9324a38486f7b0ae439c6d7f7e8faa1562fc3bcbf617a4b847810159d068", func := "interleave/interleavelaw47.JustifyPlan", spec := "justifyPlan", unfollowed := true, recurses := true, named := ["interleave/justify.verifiers"], plainKeys := false, apart := false, laid := [("interleave/justify.verifiers", laid_interleave_justify_verifiers)], narrowed := true }
def JustifyPlanUptoSaid : Prop := justifyPlanUptoRow.holds Tryz.pinned (OpenSpec.upto justifyPlanSpec)

/-- 'interleavelaw47.JustifyMonotone', WHERE WHAT IT READS IS OF BULK AT MOST 1048576: true; the input reads as it did. -/
def justifyMonotoneUptoRow : OpenClaim := { program := "ytfhhgjbcenhdeaagreatdoor", sum := "f65d9324a38486f7b0ae439c6d7f7e8faa1562fc3bcbf617a4b847810159d068", func := "interleave/interleavelaw47.JustifyMonotone", spec := "justifyMonotone", unfollowed := true, recurses := true, named := ["interleave/justify.verifiers"], plainKeys := false, apart := false, laid := [("interleave/justify.verifiers", laid_interleave_justify_verifiers)], narrowed := true }
def JustifyMonotoneUptoSaid : Prop := justifyMonotoneUptoRow.holds Tryz.pinned (OpenSpec.upto justifyMonotoneSpec)

/-- 'interleavelaw46.ProbesPlan', WHERE WHAT IT READS IS OF BULK AT MOST 1048576: true; the input reads as it did. -/
def probesPlanUptoRow : OpenClaim := { program := "ytfhhgjbcenhdeaagreatdoor", sum := "f65d9324a38486f7b0ae439c6d7f7e8faa1562fc3bcbf617a4b847810159d068", func := "interleave/interleavelaw46.ProbesPlan", spec := "probesPlan", unfollowed := true, recurses := true, named := ["math/bits.deBruijn64tab"], plainKeys := false, apart := false, laid := [("math/bits.deBruijn64tab", laid_math_bits_deBruijn64tab)], narrowed := true }
def ProbesPlanUptoSaid : Prop := probesPlanUptoRow.holds Tryz.pinned (OpenSpec.upto probesPlanSpec)

end Rows
end Go.Proofs.YtfhhgjbcenhdeaaGreatDoor
