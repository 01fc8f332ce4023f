/-
  No cell of these rows narrows 'for every input' (looked for: loops, veiled, ifaces, maps, wideKeys, modest, calm, conditions, laid).
  DERIVED. THE GIVEN ROWS OF THIS SEAT. 4 by the template 'for every input the law returns true; each argument reads behind the call as it read before'; 0 by the template 'total and deterministic' (their statements: YtfhhgjbcenhdeaaGreatTotals.lean).
  GIVEN WITH THE SEED: the statements are not yours to turn. If you find one false, say at which input.
  Laid BY PROGRAM, IN A SANDBOX (cutbox-rows.mjs): the forced cells as the released guide's own fill.sh prints them over the translation 8d0cd57a840e9c6f… (all of the seat's roots in one cut). By AI agents, Wed Nov 11 2026. No macro, syntax, notation, axiom, sorry.
-/
import Derived.Test.YtfhhgjbcenhdeaaGreatChecked
import GoSem.Claim
import GoSem.ClaimJoined
import GoSem.ClaimMapViews
import Derived.JoinedTies
import Derived.KernelRfl
namespace Go.Proofs.YtfhhgjbcenhdeaaGreat
/- THE CELL 'sum', in the pinned program and in every row, IS THE sha256 OF THE DUMP (.gsa) THAT YtfhhgjbcenhdeaaGreatProg.lean LOADS. Nothing in Lean hashes anything: it is a label: what it is worth is what the hold of that sum in a sandbox is worth. -/
noncomputable def Tryz.pinned : Pinned := { name := "ytfhhgjbcenhdeaagreat", sum := "8d0cd57a840e9c6fe1a6b08f01c3bde039ed208c3a55ed46d695671ce60382ed", checked := Tryz.checked }
namespace Rows
def none {H : Type} : Left H := { results := [], args := [] }

/-- 'interleavelaw43.PointsLeast': WHATEVER THE INPUT: true; the input reads as it did. -/
def pointsLeastSpec : ChangeSpec := { name := "pointsLeast", fn := fun _ => fun
  | [d] => { results := [.lit (.bool true)], args := [d] }
  | _ => none }
def pointsLeastRow : OpenClaim := { program := "ytfhhgjbcenhdeaagreat", sum := "8d0cd57a840e9c6fe1a6b08f01c3bde039ed208c3a55ed46d695671ce60382ed", func := "interleave/interleavelaw43.PointsLeast", spec := "pointsLeast", unfollowed := true, recurses := true, plainKeys := false, apart := false }
def PointsLeastSaid : Prop := pointsLeastRow.holds Tryz.pinned (OpenSpec.ofChange pointsLeastSpec)

/-- ITS FALSE NEIGHBOUR: 'it returns false'. Refute it at one input. -/
def pointsLeastWrong : ChangeSpec := { name := "pointsLeast", fn := fun _ => fun
  | [d] => { results := [.lit (.bool false)], args := [d] }
  | _ => none }
def PointsLeastWrongFalsely : Prop := pointsLeastRow.holds Tryz.pinned (OpenSpec.ofChange pointsLeastWrong)

/-- 'interleavelaw43.PointsSound': WHATEVER THE INPUT: true; the input reads as it did. -/
def pointsSoundSpec : ChangeSpec := { name := "pointsSound", fn := fun _ => fun
  | [d1, d2] => { results := [.lit (.bool true)], args := [d1, d2] }
  | _ => none }
def pointsSoundRow : OpenClaim := { program := "ytfhhgjbcenhdeaagreat", sum := "8d0cd57a840e9c6fe1a6b08f01c3bde039ed208c3a55ed46d695671ce60382ed", func := "interleave/interleavelaw43.PointsSound", spec := "pointsSound", unfollowed := true, recurses := true, plainKeys := false, apart := false }
def PointsSoundSaid : Prop := pointsSoundRow.holds Tryz.pinned (OpenSpec.ofChange pointsSoundSpec)

/-- ITS FALSE NEIGHBOUR: 'it returns false'. Refute it at one input. -/
def pointsSoundWrong : ChangeSpec := { name := "pointsSound", fn := fun _ => fun
  | [d1, d2] => { results := [.lit (.bool false)], args := [d1, d2] }
  | _ => none }
def PointsSoundWrongFalsely : Prop := pointsSoundRow.holds Tryz.pinned (OpenSpec.ofChange pointsSoundWrong)

/-- 'interleavelaw43.PointsAccess': WHATEVER THE INPUT: true; the input reads as it did. -/
def pointsAccessSpec : ChangeSpec := { name := "pointsAccess", fn := fun _ => fun
  | [d1, d2, d3] => { results := [.lit (.bool true)], args := [d1, d2, d3] }
  | _ => none }
def pointsAccessRow : OpenClaim := { program := "ytfhhgjbcenhdeaagreat", sum := "8d0cd57a840e9c6fe1a6b08f01c3bde039ed208c3a55ed46d695671ce60382ed", func := "interleave/interleavelaw43.PointsAccess", spec := "pointsAccess", unfollowed := true, recurses := true, plainKeys := false, apart := false }
def PointsAccessSaid : Prop := pointsAccessRow.holds Tryz.pinned (OpenSpec.ofChange pointsAccessSpec)

/-- ITS FALSE NEIGHBOUR: 'it returns false'. Refute it at one input. -/
def pointsAccessWrong : ChangeSpec := { name := "pointsAccess", fn := fun _ => fun
  | [d1, d2, d3] => { results := [.lit (.bool false)], args := [d1, d2, d3] }
  | _ => none }
def PointsAccessWrongFalsely : Prop := pointsAccessRow.holds Tryz.pinned (OpenSpec.ofChange pointsAccessWrong)

/-- 'interleavelaw43.PointsContained': WHATEVER THE INPUT: true; the input reads as it did. -/
def pointsContainedSpec : ChangeSpec := { name := "pointsContained", fn := fun _ => fun
  | [d1, d2] => { results := [.lit (.bool true)], args := [d1, d2] }
  | _ => none }
def pointsContainedRow : OpenClaim := { program := "ytfhhgjbcenhdeaagreat", sum := "8d0cd57a840e9c6fe1a6b08f01c3bde039ed208c3a55ed46d695671ce60382ed", func := "interleave/interleavelaw43.PointsContained", spec := "pointsContained", unfollowed := true, recurses := true, plainKeys := false, apart := false }
def PointsContainedSaid : Prop := pointsContainedRow.holds Tryz.pinned (OpenSpec.ofChange pointsContainedSpec)

/-- ITS FALSE NEIGHBOUR: 'it returns false'. Refute it at one input. -/
def pointsContainedWrong : ChangeSpec := { name := "pointsContained", fn := fun _ => fun
  | [d1, d2] => { results := [.lit (.bool false)], args := [d1, d2] }
  | _ => none }
def PointsContainedWrongFalsely : Prop := pointsContainedRow.holds Tryz.pinned (OpenSpec.ofChange pointsContainedWrong)

/- THE SECOND FORM. 'bulk': how many values and letters a reading holds, each counted each time it is reached (what is shared counts as often as it is met; a slice's spare places count too). A statement '..UptoSaid' is the law's where the arguments, and the package variables that the reading takes, are together of bulk at most 1048576: NARROWER than '..Said'. Prove '..Said' where nothing that the law and all that it calls make is longer than what came in: it says more and counts as full. Else prove '..UptoSaid'. A law counts once. -/
mutual
def uptoBulk {H : Type} : DataW H → Nat
  | .lit (.string bytes) => bytes.length + 1
  | .lit _ => 1
  | .nil => 1
  | .ptr d => uptoBulk d + 1
  | .slice elems spare => uptoBulkAll elems + uptoBulkAll spare + 1
  | .agg parts => uptoBulkAll parts + 1
  | .iface _ d => uptoBulk d + 1
  | .map entries => uptoBulkEntries entries + 1
  | .held _ => 1
def uptoBulkAll {H : Type} : List (DataW H) → Nat
  | [] => 0
  | d :: r => uptoBulk d + uptoBulkAll r
def uptoBulkEntries {H : Type} : List (Lit × DataW H) → Nat
  | [] => 0
  | x :: r => uptoBulkEntry x + uptoBulkEntries r
def uptoBulkEntry {H : Type} : Lit × DataW H → Nat
  | (.string bytes, d) => bytes.length + uptoBulk d + 1
  | (_, d) => uptoBulk d + 1
 end
def uptoSmall : (H : Type) → List (DataW H) → Bool := fun _ ds => decide (uptoBulkAll ds ≤ 1048576)
def OpenSpec.upto (s : _root_.Go.ChangeSpec) : _root_.Go.OpenSpec := { _root_.Go.OpenSpec.ofChange s with cond := some uptoSmall }

/-- 'interleavelaw43.PointsLeast', WHERE WHAT IT READS IS OF BULK AT MOST 1048576: true; the input reads as it did. -/
def pointsLeastUptoRow : OpenClaim := { program := "ytfhhgjbcenhdeaagreat", sum := "8d0cd57a840e9c6fe1a6b08f01c3bde039ed208c3a55ed46d695671ce60382ed", func := "interleave/interleavelaw43.PointsLeast", spec := "pointsLeast", unfollowed := true, recurses := true, plainKeys := false, apart := false, narrowed := true }
def PointsLeastUptoSaid : Prop := pointsLeastUptoRow.holds Tryz.pinned (OpenSpec.upto pointsLeastSpec)

/-- 'interleavelaw43.PointsSound', WHERE WHAT IT READS IS OF BULK AT MOST 1048576: true; the input reads as it did. -/
def pointsSoundUptoRow : OpenClaim := { program := "ytfhhgjbcenhdeaagreat", sum := "8d0cd57a840e9c6fe1a6b08f01c3bde039ed208c3a55ed46d695671ce60382ed", func := "interleave/interleavelaw43.PointsSound", spec := "pointsSound", unfollowed := true, recurses := true, plainKeys := false, apart := false, narrowed := true }
def PointsSoundUptoSaid : Prop := pointsSoundUptoRow.holds Tryz.pinned (OpenSpec.upto pointsSoundSpec)

/-- 'interleavelaw43.PointsAccess', WHERE WHAT IT READS IS OF BULK AT MOST 1048576: true; the input reads as it did. -/
def pointsAccessUptoRow : OpenClaim := { program := "ytfhhgjbcenhdeaagreat", sum := "8d0cd57a840e9c6fe1a6b08f01c3bde039ed208c3a55ed46d695671ce60382ed", func := "interleave/interleavelaw43.PointsAccess", spec := "pointsAccess", unfollowed := true, recurses := true, plainKeys := false, apart := false, narrowed := true }
def PointsAccessUptoSaid : Prop := pointsAccessUptoRow.holds Tryz.pinned (OpenSpec.upto pointsAccessSpec)

/-- 'interleavelaw43.PointsContained', WHERE WHAT IT READS IS OF BULK AT MOST 1048576: true; the input reads as it did. -/
def pointsContainedUptoRow : OpenClaim := { program := "ytfhhgjbcenhdeaagreat", sum := "8d0cd57a840e9c6fe1a6b08f01c3bde039ed208c3a55ed46d695671ce60382ed", func := "interleave/interleavelaw43.PointsContained", spec := "pointsContained", unfollowed := true, recurses := true, plainKeys := false, apart := false, narrowed := true }
def PointsContainedUptoSaid : Prop := pointsContainedUptoRow.holds Tryz.pinned (OpenSpec.upto pointsContainedSpec)

end Rows
end Go.Proofs.YtfhhgjbcenhdeaaGreat
