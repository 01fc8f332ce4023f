/-
  No cell of these rows narrows 'for every input' (looked for: loops, veiled, ifaces, maps, wideKeys, modest, calm, conditions, laid).
  DERIVED. THE GIVEN ROWS OF THIS SEAT. 3 by the template 'for every input the law returns true; each argument reads behind the call as it read before'; 0 by the template 'total and deterministic' (their statements: YtfhhgjbcenhdeaaTotals.lean).
  GIVEN WITH THE SEED: the statements are not yours to turn. If you find one false, say at which input.
  Laid BY PROGRAM, IN A SANDBOX (cutbox-rows.mjs): the forced cells as the released guide's own fill.sh prints them over the translation e504559d6f175f74… (all of the seat's roots in one cut). By AI agents, Wed Nov 11 2026. No macro, syntax, notation, axiom, sorry.
-/
import Derived.Test.YtfhhgjbcenhdeaaChecked
import GoSem.Claim
import GoSem.ClaimJoined
import GoSem.ClaimMapViews
import Derived.JoinedTies
import Derived.KernelRfl
namespace Go.Proofs.Ytfhhgjbcenhdeaa
/- THE CELL 'sum', in the pinned program and in every row, IS THE sha256 OF THE DUMP (.gsa) THAT YtfhhgjbcenhdeaaProg.lean LOADS. Nothing in Lean hashes anything: it is a label: what it is worth is what the hold of that sum in a sandbox is worth. -/
noncomputable def Try.pinned : Pinned := { name := "ytfhhgjbcenhdeaa", sum := "e504559d6f175f749340446cb2e3247999bd834f35f2066a8ab701b4e6a8c5d2", checked := Try.checked }
namespace Rows
def none {H : Type} : Left H := { results := [], args := [] }

/-- 'interleavelaw44.PrivateShared': WHATEVER THE INPUT: true; the input reads as it did. -/
def privateSharedSpec : ChangeSpec := { name := "privateShared", fn := fun _ => fun
  | [d1, d2] => { results := [.lit (.bool true)], args := [d1, d2] }
  | _ => none }
def privateSharedRow : OpenClaim := { program := "ytfhhgjbcenhdeaa", sum := "e504559d6f175f749340446cb2e3247999bd834f35f2066a8ab701b4e6a8c5d2", func := "interleave/interleavelaw44.PrivateShared", spec := "privateShared", unfollowed := true, recurses := true, plainKeys := false, apart := false }
def PrivateSharedSaid : Prop := privateSharedRow.holds Try.pinned (OpenSpec.ofChange privateSharedSpec)

/-- ITS FALSE NEIGHBOUR: 'it returns false'. Refute it at one input. -/
def privateSharedWrong : ChangeSpec := { name := "privateShared", fn := fun _ => fun
  | [d1, d2] => { results := [.lit (.bool false)], args := [d1, d2] }
  | _ => none }
def PrivateSharedWrongFalsely : Prop := privateSharedRow.holds Try.pinned (OpenSpec.ofChange privateSharedWrong)

/-- 'interleavelaw44.PrivateMonotone': WHATEVER THE INPUT: true; the input reads as it did. -/
def privateMonotoneSpec : ChangeSpec := { name := "privateMonotone", fn := fun _ => fun
  | [d1, d2] => { results := [.lit (.bool true)], args := [d1, d2] }
  | _ => none }
def privateMonotoneRow : OpenClaim := { program := "ytfhhgjbcenhdeaa", sum := "e504559d6f175f749340446cb2e3247999bd834f35f2066a8ab701b4e6a8c5d2", func := "interleave/interleavelaw44.PrivateMonotone", spec := "privateMonotone", unfollowed := true, recurses := true, plainKeys := false, apart := false }
def PrivateMonotoneSaid : Prop := privateMonotoneRow.holds Try.pinned (OpenSpec.ofChange privateMonotoneSpec)

/-- ITS FALSE NEIGHBOUR: 'it returns false'. Refute it at one input. -/
def privateMonotoneWrong : ChangeSpec := { name := "privateMonotone", fn := fun _ => fun
  | [d1, d2] => { results := [.lit (.bool false)], args := [d1, d2] }
  | _ => none }
def PrivateMonotoneWrongFalsely : Prop := privateMonotoneRow.holds Try.pinned (OpenSpec.ofChange privateMonotoneWrong)

/-- 'interleavelaw44.PrivateClosed': WHATEVER THE INPUT: true; the input reads as it did. -/
def privateClosedSpec : ChangeSpec := { name := "privateClosed", fn := fun _ => fun
  | [d] => { results := [.lit (.bool true)], args := [d] }
  | _ => none }
def privateClosedRow : OpenClaim := { program := "ytfhhgjbcenhdeaa", sum := "e504559d6f175f749340446cb2e3247999bd834f35f2066a8ab701b4e6a8c5d2", func := "interleave/interleavelaw44.PrivateClosed", spec := "privateClosed", unfollowed := true, recurses := true, plainKeys := false, apart := false }
def PrivateClosedSaid : Prop := privateClosedRow.holds Try.pinned (OpenSpec.ofChange privateClosedSpec)

/-- ITS FALSE NEIGHBOUR: 'it returns false'. Refute it at one input. -/
def privateClosedWrong : ChangeSpec := { name := "privateClosed", fn := fun _ => fun
  | [d] => { results := [.lit (.bool false)], args := [d] }
  | _ => none }
def PrivateClosedWrongFalsely : Prop := privateClosedRow.holds Try.pinned (OpenSpec.ofChange privateClosedWrong)

/- THE SECOND FORM. 'bulk': how many values and letters a reading holds, each counted each time it is reached (what is shared counts as often as it is met; a slice's spare places count too). A statement '..UptoSaid' is the law's where the arguments, and the package variables that the reading takes, are together of bulk at most 1048576: NARROWER than '..Said'. Prove '..Said' where nothing that the law and all that it calls make is longer than what came in: it says more and counts as full. Else prove '..UptoSaid'. A law counts once. -/
mutual
def uptoBulk {H : Type} : DataW H → Nat
  | .lit (.string bytes) => bytes.length + 1
  | .lit _ => 1
  | .nil => 1
  | .ptr d => uptoBulk d + 1
  | .slice elems spare => uptoBulkAll elems + uptoBulkAll spare + 1
  | .agg parts => uptoBulkAll parts + 1
  | .iface _ d => uptoBulk d + 1
  | .map entries => uptoBulkEntries entries + 1
  | .held _ => 1
def uptoBulkAll {H : Type} : List (DataW H) → Nat
  | [] => 0
  | d :: r => uptoBulk d + uptoBulkAll r
def uptoBulkEntries {H : Type} : List (Lit × DataW H) → Nat
  | [] => 0
  | x :: r => uptoBulkEntry x + uptoBulkEntries r
def uptoBulkEntry {H : Type} : Lit × DataW H → Nat
  | (.string bytes, d) => bytes.length + uptoBulk d + 1
  | (_, d) => uptoBulk d + 1
 end
def uptoSmall : (H : Type) → List (DataW H) → Bool := fun _ ds => decide (uptoBulkAll ds ≤ 1048576)
def OpenSpec.upto (s : _root_.Go.ChangeSpec) : _root_.Go.OpenSpec := { _root_.Go.OpenSpec.ofChange s with cond := some uptoSmall }

/-- 'interleavelaw44.PrivateShared', WHERE WHAT IT READS IS OF BULK AT MOST 1048576: true; the input reads as it did. -/
def privateSharedUptoRow : OpenClaim := { program := "ytfhhgjbcenhdeaa", sum := "e504559d6f175f749340446cb2e3247999bd834f35f2066a8ab701b4e6a8c5d2", func := "interleave/interleavelaw44.PrivateShared", spec := "privateShared", unfollowed := true, recurses := true, plainKeys := false, apart := false, narrowed := true }
def PrivateSharedUptoSaid : Prop := privateSharedUptoRow.holds Try.pinned (OpenSpec.upto privateSharedSpec)

/-- 'interleavelaw44.PrivateMonotone', WHERE WHAT IT READS IS OF BULK AT MOST 1048576: true; the input reads as it did. -/
def privateMonotoneUptoRow : OpenClaim := { program := "ytfhhgjbcenhdeaa", sum := "e504559d6f175f749340446cb2e3247999bd834f35f2066a8ab701b4e6a8c5d2", func := "interleave/interleavelaw44.PrivateMonotone", spec := "privateMonotone", unfollowed := true, recurses := true, plainKeys := false, apart := false, narrowed := true }
def PrivateMonotoneUptoSaid : Prop := privateMonotoneUptoRow.holds Try.pinned (OpenSpec.upto privateMonotoneSpec)

/-- 'interleavelaw44.PrivateClosed', WHERE WHAT IT READS IS OF BULK AT MOST 1048576: true; the input reads as it did. -/
def privateClosedUptoRow : OpenClaim := { program := "ytfhhgjbcenhdeaa", sum := "e504559d6f175f749340446cb2e3247999bd834f35f2066a8ab701b4e6a8c5d2", func := "interleave/interleavelaw44.PrivateClosed", spec := "privateClosed", unfollowed := true, recurses := true, plainKeys := false, apart := false, narrowed := true }
def PrivateClosedUptoSaid : Prop := privateClosedUptoRow.holds Try.pinned (OpenSpec.upto privateClosedSpec)

end Rows
end Go.Proofs.Ytfhhgjbcenhdeaa
