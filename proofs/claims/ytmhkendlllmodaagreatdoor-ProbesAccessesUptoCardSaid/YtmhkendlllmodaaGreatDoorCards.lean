/-
  DERIVED. GIVEN WITH THE SEED: THE CARDS: each row of YtmhkendlllmodaaGreatDoorRows.lean that lists a variable, with what it lists TIED to the program's text (the seventh form; the later family's looks); each row that meets fmt, with fmt's text TOLD by the authors' own Lean function (tested against real Go, not proved from fmt's source: count such statements apart). THE CARD IS WHAT COUNTS. Prove the row's statement (the work); the ties are given (YtmhkendlllmodaaGreatDoorTie.lean); close each card by the builder's one call (the guide's Derived/Test/ToyasCard.lean, 'card_holds'). Laid BY PROGRAM, IN A SANDBOX (cutbox-door.mjs). By AI agents, Wed Nov 11 2026. No macro, syntax, notation, axiom, sorry.
-/
import Derived.Test.YtmhkendlllmodaaGreatDoorRows
import GoSem.ClaimSeven
namespace Go.Proofs.YtmhkendlllmodaaGreatDoor
namespace Rows

/-- THE TIED CARD OF 'interleavelaw46.ProbesAccesses'. -/
def probesAccessesCard : Claim7 := { stood := { row := probesAccessesRow, standIns := [], harness := (true, "cb5c2e7baca6ad45c1d9bc6fe85901f6180a78e078a5d3d5cf54f5025b50c32b"), looks := false }, kinds := [], alts := [], laidByText := true, laidKinds := [.data], laidTests := true, laidLooks := .later }
def ProbesAccessesCardSaid : Prop := Claim7.holds Tryz.pinned (.plain (OpenSpec.ofChange probesAccessesSpec)) probesAccessesCard

/-- THE TIED CARD OF 'interleavelaw46.ProbesPlan'. -/
def probesPlanCard : Claim7 := { stood := { row := probesPlanRow, standIns := [], harness := (true, "cb5c2e7baca6ad45c1d9bc6fe85901f6180a78e078a5d3d5cf54f5025b50c32b"), looks := false }, kinds := [], alts := [], laidByText := true, laidKinds := [.data], laidTests := true, laidLooks := .later }
def ProbesPlanCardSaid : Prop := Claim7.holds Tryz.pinned (.plain (OpenSpec.ofChange probesPlanSpec)) probesPlanCard

/-- THE TIED CARD OF 'interleavelaw46.ProbesFilter'. -/
def probesFilterCard : Claim7 := { stood := { row := probesFilterRow, standIns := [], harness := (true, "cb5c2e7baca6ad45c1d9bc6fe85901f6180a78e078a5d3d5cf54f5025b50c32b"), looks := false }, kinds := [], alts := [], laidByText := true, laidKinds := [.data], laidTests := true, laidLooks := .later }
def ProbesFilterCardSaid : Prop := Claim7.holds Tryz.pinned (.plain (OpenSpec.ofChange probesFilterSpec)) probesFilterCard

/-- THE TIED CARD OF 'interleavelaw46.ProbesKept'. -/
def probesKeptCard : Claim7 := { stood := { row := probesKeptRow, standIns := [], harness := (true, "cb5c2e7baca6ad45c1d9bc6fe85901f6180a78e078a5d3d5cf54f5025b50c32b"), looks := false }, kinds := [], alts := [], laidByText := true, laidKinds := [.data], laidTests := true, laidLooks := .later }
def ProbesKeptCardSaid : Prop := Claim7.holds Tryz.pinned (.plain (OpenSpec.ofChange probesKeptSpec)) probesKeptCard

/-- THE SECOND FORM's CARD OF 'interleavelaw46.ProbesAccesses'. -/
def probesAccessesUptoCard : Claim7 := { stood := { row := probesAccessesUptoRow, standIns := [], harness := (true, "cb5c2e7baca6ad45c1d9bc6fe85901f6180a78e078a5d3d5cf54f5025b50c32b"), looks := false }, kinds := [], alts := [], laidByText := true, laidKinds := [.data], laidTests := true, laidLooks := .later }
def ProbesAccessesUptoCardSaid : Prop := Claim7.holds Tryz.pinned (.plain (OpenSpec.upto probesAccessesSpec)) probesAccessesUptoCard

/-- THE SECOND FORM's CARD OF 'interleavelaw46.ProbesPlan'. -/
def probesPlanUptoCard : Claim7 := { stood := { row := probesPlanUptoRow, standIns := [], harness := (true, "cb5c2e7baca6ad45c1d9bc6fe85901f6180a78e078a5d3d5cf54f5025b50c32b"), looks := false }, kinds := [], alts := [], laidByText := true, laidKinds := [.data], laidTests := true, laidLooks := .later }
def ProbesPlanUptoCardSaid : Prop := Claim7.holds Tryz.pinned (.plain (OpenSpec.upto probesPlanSpec)) probesPlanUptoCard

/-- THE SECOND FORM's CARD OF 'interleavelaw46.ProbesFilter'. -/
def probesFilterUptoCard : Claim7 := { stood := { row := probesFilterUptoRow, standIns := [], harness := (true, "cb5c2e7baca6ad45c1d9bc6fe85901f6180a78e078a5d3d5cf54f5025b50c32b"), looks := false }, kinds := [], alts := [], laidByText := true, laidKinds := [.data], laidTests := true, laidLooks := .later }
def ProbesFilterUptoCardSaid : Prop := Claim7.holds Tryz.pinned (.plain (OpenSpec.upto probesFilterSpec)) probesFilterUptoCard

/-- THE SECOND FORM's CARD OF 'interleavelaw46.ProbesKept'. -/
def probesKeptUptoCard : Claim7 := { stood := { row := probesKeptUptoRow, standIns := [], harness := (true, "cb5c2e7baca6ad45c1d9bc6fe85901f6180a78e078a5d3d5cf54f5025b50c32b"), looks := false }, kinds := [], alts := [], laidByText := true, laidKinds := [.data], laidTests := true, laidLooks := .later }
def ProbesKeptUptoCardSaid : Prop := Claim7.holds Tryz.pinned (.plain (OpenSpec.upto probesKeptSpec)) probesKeptUptoCard
end Rows
end Go.Proofs.YtmhkendlllmodaaGreatDoor
