/-
  No cell of these rows narrows 'for every input' (looked for: loops, veiled, ifaces, maps, wideKeys, modest, calm, conditions, laid).
  DERIVED. THE GIVEN ROWS OF THIS SEAT. 6 by the template 'for every input the law returns true; each argument reads behind the call as it read before'; 0 by the template 'total and deterministic' (their statements: YthlhjepijodemaaTotals.lean).
  GIVEN WITH THE SEED: the statements are not yours to turn. If you find one false, say at which input.
  Laid BY PROGRAM, IN A SANDBOX (cutbox-rows.mjs): the forced cells as the released guide's own fill.sh prints them over the translation bc7a83f619c8491e… (all of the seat's roots in one cut). By AI agents, Wed Nov 11 2026. No macro, syntax, notation, axiom, sorry.
-/
import Derived.Test.YthlhjepijodemaaChecked
import GoSem.Claim
import GoSem.ClaimJoined
import GoSem.ClaimMapViews
import Derived.JoinedTies
import Derived.KernelRfl
namespace Go.Proofs.Ythlhjepijodemaa
/- THE CELL 'sum', in the pinned program and in every row, IS THE sha256 OF THE DUMP (.gsa) THAT YthlhjepijodemaaProg.lean LOADS. Nothing in Lean hashes anything: it is a label: what it is worth is what the hold of that sum in a sandbox is worth. -/
noncomputable def Try.pinned : Pinned := { name := "ythlhjepijodemaa", sum := "bc7a83f619c8491eb1dada5f80229b4be59086621766bcff975394fed52e28fb", checked := Try.checked }
namespace Rows
def none {H : Type} : Left H := { results := [], args := [] }

/-- 'interleavelaw19.GroupNew': WHATEVER THE INPUT: true; the input reads as it did. -/
def groupNewSpec : ChangeSpec := { name := "groupNew", fn := fun _ => fun
  | [d1, d2, d3] => { results := [.lit (.bool true)], args := [d1, d2, d3] }
  | _ => none }
def groupNewRow : OpenClaim := { program := "ythlhjepijodemaa", sum := "bc7a83f619c8491eb1dada5f80229b4be59086621766bcff975394fed52e28fb", func := "interleave/interleavelaw19.GroupNew", spec := "groupNew", apart := false }
def GroupNewSaid : Prop := groupNewRow.holds Try.pinned (OpenSpec.ofChange groupNewSpec)

/-- ITS FALSE NEIGHBOUR: 'it returns false'. Refute it at one input. -/
def groupNewWrong : ChangeSpec := { name := "groupNew", fn := fun _ => fun
  | [d1, d2, d3] => { results := [.lit (.bool false)], args := [d1, d2, d3] }
  | _ => none }
def GroupNewWrongFalsely : Prop := groupNewRow.holds Try.pinned (OpenSpec.ofChange groupNewWrong)

/-- 'interleavelaw19.GroupAddMatchesReference': WHATEVER THE INPUT: true; the input reads as it did. -/
def groupAddMatchesReferenceSpec : ChangeSpec := { name := "groupAddMatchesReference", fn := fun _ => fun
  | [d1, d2] => { results := [.lit (.bool true)], args := [d1, d2] }
  | _ => none }
def groupAddMatchesReferenceRow : OpenClaim := { program := "ythlhjepijodemaa", sum := "bc7a83f619c8491eb1dada5f80229b4be59086621766bcff975394fed52e28fb", func := "interleave/interleavelaw19.GroupAddMatchesReference", spec := "groupAddMatchesReference", apart := false }
def GroupAddMatchesReferenceSaid : Prop := groupAddMatchesReferenceRow.holds Try.pinned (OpenSpec.ofChange groupAddMatchesReferenceSpec)

/-- ITS FALSE NEIGHBOUR: 'it returns false'. Refute it at one input. -/
def groupAddMatchesReferenceWrong : ChangeSpec := { name := "groupAddMatchesReference", fn := fun _ => fun
  | [d1, d2] => { results := [.lit (.bool false)], args := [d1, d2] }
  | _ => none }
def GroupAddMatchesReferenceWrongFalsely : Prop := groupAddMatchesReferenceRow.holds Try.pinned (OpenSpec.ofChange groupAddMatchesReferenceWrong)

/-- 'interleavelaw19.GroupOnceMatchesReference': WHATEVER THE INPUT: true; the input reads as it did. -/
def groupOnceMatchesReferenceSpec : ChangeSpec := { name := "groupOnceMatchesReference", fn := fun _ => fun
  | [d1, d2] => { results := [.lit (.bool true)], args := [d1, d2] }
  | _ => none }
def groupOnceMatchesReferenceRow : OpenClaim := { program := "ythlhjepijodemaa", sum := "bc7a83f619c8491eb1dada5f80229b4be59086621766bcff975394fed52e28fb", func := "interleave/interleavelaw19.GroupOnceMatchesReference", spec := "groupOnceMatchesReference", apart := false }
def GroupOnceMatchesReferenceSaid : Prop := groupOnceMatchesReferenceRow.holds Try.pinned (OpenSpec.ofChange groupOnceMatchesReferenceSpec)

/-- ITS FALSE NEIGHBOUR: 'it returns false'. Refute it at one input. -/
def groupOnceMatchesReferenceWrong : ChangeSpec := { name := "groupOnceMatchesReference", fn := fun _ => fun
  | [d1, d2] => { results := [.lit (.bool false)], args := [d1, d2] }
  | _ => none }
def GroupOnceMatchesReferenceWrongFalsely : Prop := groupOnceMatchesReferenceRow.holds Try.pinned (OpenSpec.ofChange groupOnceMatchesReferenceWrong)

/-- 'interleavelaw19.GroupCounts': WHATEVER THE INPUT: true; the input reads as it did. -/
def groupCountsSpec : ChangeSpec := { name := "groupCounts", fn := fun _ => fun
  | [d] => { results := [.lit (.bool true)], args := [d] }
  | _ => none }
def groupCountsRow : OpenClaim := { program := "ythlhjepijodemaa", sum := "bc7a83f619c8491eb1dada5f80229b4be59086621766bcff975394fed52e28fb", func := "interleave/interleavelaw19.GroupCounts", spec := "groupCounts", apart := false }
def GroupCountsSaid : Prop := groupCountsRow.holds Try.pinned (OpenSpec.ofChange groupCountsSpec)

/-- ITS FALSE NEIGHBOUR: 'it returns false'. Refute it at one input. -/
def groupCountsWrong : ChangeSpec := { name := "groupCounts", fn := fun _ => fun
  | [d] => { results := [.lit (.bool false)], args := [d] }
  | _ => none }
def GroupCountsWrongFalsely : Prop := groupCountsRow.holds Try.pinned (OpenSpec.ofChange groupCountsWrong)

/-- 'interleavelaw19.GroupOrderOfAdditions': WHATEVER THE INPUT: true; the input reads as it did. -/
def groupOrderOfAdditionsSpec : ChangeSpec := { name := "groupOrderOfAdditions", fn := fun _ => fun
  | [d1, d2, d3] => { results := [.lit (.bool true)], args := [d1, d2, d3] }
  | _ => none }
def groupOrderOfAdditionsRow : OpenClaim := { program := "ythlhjepijodemaa", sum := "bc7a83f619c8491eb1dada5f80229b4be59086621766bcff975394fed52e28fb", func := "interleave/interleavelaw19.GroupOrderOfAdditions", spec := "groupOrderOfAdditions", apart := false }
def GroupOrderOfAdditionsSaid : Prop := groupOrderOfAdditionsRow.holds Try.pinned (OpenSpec.ofChange groupOrderOfAdditionsSpec)

/-- ITS FALSE NEIGHBOUR: 'it returns false'. Refute it at one input. -/
def groupOrderOfAdditionsWrong : ChangeSpec := { name := "groupOrderOfAdditions", fn := fun _ => fun
  | [d1, d2, d3] => { results := [.lit (.bool false)], args := [d1, d2, d3] }
  | _ => none }
def GroupOrderOfAdditionsWrongFalsely : Prop := groupOrderOfAdditionsRow.holds Try.pinned (OpenSpec.ofChange groupOrderOfAdditionsWrong)

/-- 'interleavelaw19.GroupOnceRunsOnce': WHATEVER THE INPUT: true; the input reads as it did. -/
def groupOnceRunsOnceSpec : ChangeSpec := { name := "groupOnceRunsOnce", fn := fun _ => fun
  | [d1, d2] => { results := [.lit (.bool true)], args := [d1, d2] }
  | _ => none }
def groupOnceRunsOnceRow : OpenClaim := { program := "ythlhjepijodemaa", sum := "bc7a83f619c8491eb1dada5f80229b4be59086621766bcff975394fed52e28fb", func := "interleave/interleavelaw19.GroupOnceRunsOnce", spec := "groupOnceRunsOnce", apart := false }
def GroupOnceRunsOnceSaid : Prop := groupOnceRunsOnceRow.holds Try.pinned (OpenSpec.ofChange groupOnceRunsOnceSpec)

/-- ITS FALSE NEIGHBOUR: 'it returns false'. Refute it at one input. -/
def groupOnceRunsOnceWrong : ChangeSpec := { name := "groupOnceRunsOnce", fn := fun _ => fun
  | [d1, d2] => { results := [.lit (.bool false)], args := [d1, d2] }
  | _ => none }
def GroupOnceRunsOnceWrongFalsely : Prop := groupOnceRunsOnceRow.holds Try.pinned (OpenSpec.ofChange groupOnceRunsOnceWrong)

/- THE SECOND FORM. 'bulk': how many values and letters a reading holds, each counted each time it is reached (what is shared counts as often as it is met; a slice's spare places count too). A statement '..UptoSaid' is the law's where the arguments, and the package variables that the reading takes, are together of bulk at most 1048576: NARROWER than '..Said'. Prove '..Said' where nothing that the law and all that it calls make is longer than what came in: it says more and counts as full. Else prove '..UptoSaid'. A law counts once. -/
mutual
def uptoBulk {H : Type} : DataW H → Nat
  | .lit (.string bytes) => bytes.length + 1
  | .lit _ => 1
  | .nil => 1
  | .ptr d => uptoBulk d + 1
  | .slice elems spare => uptoBulkAll elems + uptoBulkAll spare + 1
  | .agg parts => uptoBulkAll parts + 1
  | .iface _ d => uptoBulk d + 1
  | .map entries => uptoBulkEntries entries + 1
  | .held _ => 1
def uptoBulkAll {H : Type} : List (DataW H) → Nat
  | [] => 0
  | d :: r => uptoBulk d + uptoBulkAll r
def uptoBulkEntries {H : Type} : List (Lit × DataW H) → Nat
  | [] => 0
  | x :: r => uptoBulkEntry x + uptoBulkEntries r
def uptoBulkEntry {H : Type} : Lit × DataW H → Nat
  | (.string bytes, d) => bytes.length + uptoBulk d + 1
  | (_, d) => uptoBulk d + 1
 end
def uptoSmall : (H : Type) → List (DataW H) → Bool := fun _ ds => decide (uptoBulkAll ds ≤ 1048576)
def OpenSpec.upto (s : _root_.Go.ChangeSpec) : _root_.Go.OpenSpec := { _root_.Go.OpenSpec.ofChange s with cond := some uptoSmall }

/-- 'interleavelaw19.GroupNew', WHERE WHAT IT READS IS OF BULK AT MOST 1048576: true; the input reads as it did. -/
def groupNewUptoRow : OpenClaim := { program := "ythlhjepijodemaa", sum := "bc7a83f619c8491eb1dada5f80229b4be59086621766bcff975394fed52e28fb", func := "interleave/interleavelaw19.GroupNew", spec := "groupNew", apart := false, narrowed := true }
def GroupNewUptoSaid : Prop := groupNewUptoRow.holds Try.pinned (OpenSpec.upto groupNewSpec)

/-- 'interleavelaw19.GroupAddMatchesReference', WHERE WHAT IT READS IS OF BULK AT MOST 1048576: true; the input reads as it did. -/
def groupAddMatchesReferenceUptoRow : OpenClaim := { program := "ythlhjepijodemaa", sum := "bc7a83f619c8491eb1dada5f80229b4be59086621766bcff975394fed52e28fb", func := "interleave/interleavelaw19.GroupAddMatchesReference", spec := "groupAddMatchesReference", apart := false, narrowed := true }
def GroupAddMatchesReferenceUptoSaid : Prop := groupAddMatchesReferenceUptoRow.holds Try.pinned (OpenSpec.upto groupAddMatchesReferenceSpec)

/-- 'interleavelaw19.GroupOnceMatchesReference', WHERE WHAT IT READS IS OF BULK AT MOST 1048576: true; the input reads as it did. -/
def groupOnceMatchesReferenceUptoRow : OpenClaim := { program := "ythlhjepijodemaa", sum := "bc7a83f619c8491eb1dada5f80229b4be59086621766bcff975394fed52e28fb", func := "interleave/interleavelaw19.GroupOnceMatchesReference", spec := "groupOnceMatchesReference", apart := false, narrowed := true }
def GroupOnceMatchesReferenceUptoSaid : Prop := groupOnceMatchesReferenceUptoRow.holds Try.pinned (OpenSpec.upto groupOnceMatchesReferenceSpec)

/-- 'interleavelaw19.GroupCounts', WHERE WHAT IT READS IS OF BULK AT MOST 1048576: true; the input reads as it did. -/
def groupCountsUptoRow : OpenClaim := { program := "ythlhjepijodemaa", sum := "bc7a83f619c8491eb1dada5f80229b4be59086621766bcff975394fed52e28fb", func := "interleave/interleavelaw19.GroupCounts", spec := "groupCounts", apart := false, narrowed := true }
def GroupCountsUptoSaid : Prop := groupCountsUptoRow.holds Try.pinned (OpenSpec.upto groupCountsSpec)

/-- 'interleavelaw19.GroupOrderOfAdditions', WHERE WHAT IT READS IS OF BULK AT MOST 1048576: true; the input reads as it did. -/
def groupOrderOfAdditionsUptoRow : OpenClaim := { program := "ythlhjepijodemaa", sum := "bc7a83f619c8491eb1dada5f80229b4be59086621766bcff975394fed52e28fb", func := "interleave/interleavelaw19.GroupOrderOfAdditions", spec := "groupOrderOfAdditions", apart := false, narrowed := true }
def GroupOrderOfAdditionsUptoSaid : Prop := groupOrderOfAdditionsUptoRow.holds Try.pinned (OpenSpec.upto groupOrderOfAdditionsSpec)

/-- 'interleavelaw19.GroupOnceRunsOnce', WHERE WHAT IT READS IS OF BULK AT MOST 1048576: true; the input reads as it did. -/
def groupOnceRunsOnceUptoRow : OpenClaim := { program := "ythlhjepijodemaa", sum := "bc7a83f619c8491eb1dada5f80229b4be59086621766bcff975394fed52e28fb", func := "interleave/interleavelaw19.GroupOnceRunsOnce", spec := "groupOnceRunsOnce", apart := false, narrowed := true }
def GroupOnceRunsOnceUptoSaid : Prop := groupOnceRunsOnceUptoRow.holds Try.pinned (OpenSpec.upto groupOnceRunsOnceSpec)

end Rows
end Go.Proofs.Ythlhjepijodemaa
