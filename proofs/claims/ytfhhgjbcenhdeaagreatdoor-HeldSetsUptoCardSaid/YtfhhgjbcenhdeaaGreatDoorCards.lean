/-
  DERIVED. GIVEN WITH THE SEED: THE CARDS: each row of YtfhhgjbcenhdeaaGreatDoorRows.lean that lists a variable, with what it lists TIED to the program's text (the seventh form; the later family's looks); each row that meets fmt, with fmt's text TOLD by the authors' own Lean function (tested against real Go, not proved from fmt's source: count such statements apart). THE CARD IS WHAT COUNTS. Prove the row's statement (the work); the ties are given (YtfhhgjbcenhdeaaGreatDoorTie.lean); close each card by the builder's one call (the guide's Derived/Test/ToyasCard.lean, 'card_holds'). Laid BY PROGRAM, IN A SANDBOX (cutbox-door.mjs). By AI agents, Wed Nov 11 2026. No macro, syntax, notation, axiom, sorry.
-/
import Derived.Test.YtfhhgjbcenhdeaaGreatDoorRows
import GoSem.ClaimSeven
namespace Go.Proofs.YtfhhgjbcenhdeaaGreatDoor
namespace Rows

/-- THE TIED CARD OF 'interleavelaw45.HeldSets'. -/
def heldSetsCard : Claim7 := { stood := { row := heldSetsRow, standIns := [], harness := (true, "64a95c451a570ece57cf0e7e9a3e3cdb56e9a109581073e7aae68c43071f7e30"), looks := false }, kinds := [], alts := [], laidByText := true, laidKinds := [.data], laidTests := true, laidLooks := .later }
def HeldSetsCardSaid : Prop := Claim7.holds Tryz.pinned (.plain (OpenSpec.ofChange heldSetsSpec)) heldSetsCard

/-- THE TIED CARD OF 'interleavelaw45.HeldFlow'. -/
def heldFlowCard : Claim7 := { stood := { row := heldFlowRow, standIns := [], harness := (true, "64a95c451a570ece57cf0e7e9a3e3cdb56e9a109581073e7aae68c43071f7e30"), looks := false }, kinds := [], alts := [], laidByText := true, laidKinds := [.data], laidTests := true, laidLooks := .later }
def HeldFlowCardSaid : Prop := Claim7.holds Tryz.pinned (.plain (OpenSpec.ofChange heldFlowSpec)) heldFlowCard

/-- THE TIED CARD OF 'interleavelaw45.HeldDiscipline'. -/
def heldDisciplineCard : Claim7 := { stood := { row := heldDisciplineRow, standIns := [], harness := (true, "64a95c451a570ece57cf0e7e9a3e3cdb56e9a109581073e7aae68c43071f7e30"), looks := false }, kinds := [], alts := [], laidByText := true, laidKinds := [.data], laidTests := true, laidLooks := .later }
def HeldDisciplineCardSaid : Prop := Claim7.holds Tryz.pinned (.plain (OpenSpec.ofChange heldDisciplineSpec)) heldDisciplineCard

/-- THE TIED CARD OF 'interleavelaw47.JustifyOne'. -/
def justifyOneCard : Claim7 := { stood := { row := justifyOneRow, standIns := [], harness := (true, "64a95c451a570ece57cf0e7e9a3e3cdb56e9a109581073e7aae68c43071f7e30"), looks := false }, kinds := [], alts := [], laidByText := true, laidKinds := [.wider], laidTests := true, laidLooks := .later }
def JustifyOneCardSaid : Prop := Claim7.holds Tryz.pinned (.plain (OpenSpec.ofChange justifyOneSpec)) justifyOneCard

/-- THE TIED CARD OF 'interleavelaw47.JustifyCheck'. -/
def justifyCheckCard : Claim7 := { stood := { row := justifyCheckRow, standIns := [], harness := (true, "64a95c451a570ece57cf0e7e9a3e3cdb56e9a109581073e7aae68c43071f7e30"), looks := false }, kinds := [], alts := [], laidByText := true, laidKinds := [.wider], laidTests := true, laidLooks := .later }
def JustifyCheckCardSaid : Prop := Claim7.holds Tryz.pinned (.plain (OpenSpec.ofChange justifyCheckSpec)) justifyCheckCard

/-- THE TIED CARD OF 'interleavelaw47.JustifyPlan'. -/
def justifyPlanCard : Claim7 := { stood := { row := justifyPlanRow, standIns := [], harness := (true, "64a95c451a570ece57cf0e7e9a3e3cdb56e9a109581073e7aae68c43071f7e30"), looks := false }, kinds := [], alts := [], laidByText := true, laidKinds := [.wider], laidTests := true, laidLooks := .later }
def JustifyPlanCardSaid : Prop := Claim7.holds Tryz.pinned (.plain (OpenSpec.ofChange justifyPlanSpec)) justifyPlanCard

/-- THE TIED CARD OF 'interleavelaw47.JustifyMonotone'. -/
def justifyMonotoneCard : Claim7 := { stood := { row := justifyMonotoneRow, standIns := [], harness := (true, "64a95c451a570ece57cf0e7e9a3e3cdb56e9a109581073e7aae68c43071f7e30"), looks := false }, kinds := [], alts := [], laidByText := true, laidKinds := [.wider], laidTests := true, laidLooks := .later }
def JustifyMonotoneCardSaid : Prop := Claim7.holds Tryz.pinned (.plain (OpenSpec.ofChange justifyMonotoneSpec)) justifyMonotoneCard

/-- THE TIED CARD OF 'interleavelaw46.ProbesPlan'. -/
def probesPlanCard : Claim7 := { stood := { row := probesPlanRow, standIns := [], harness := (true, "64a95c451a570ece57cf0e7e9a3e3cdb56e9a109581073e7aae68c43071f7e30"), looks := false }, kinds := [], alts := [], laidByText := true, laidKinds := [.data], laidTests := true, laidLooks := .later }
def ProbesPlanCardSaid : Prop := Claim7.holds Tryz.pinned (.plain (OpenSpec.ofChange probesPlanSpec)) probesPlanCard

/-- THE SECOND FORM's CARD OF 'interleavelaw45.HeldSets'. -/
def heldSetsUptoCard : Claim7 := { stood := { row := heldSetsUptoRow, standIns := [], harness := (true, "64a95c451a570ece57cf0e7e9a3e3cdb56e9a109581073e7aae68c43071f7e30"), looks := false }, kinds := [], alts := [], laidByText := true, laidKinds := [.data], laidTests := true, laidLooks := .later }
def HeldSetsUptoCardSaid : Prop := Claim7.holds Tryz.pinned (.plain (OpenSpec.upto heldSetsSpec)) heldSetsUptoCard

/-- THE SECOND FORM's CARD OF 'interleavelaw45.HeldFlow'. -/
def heldFlowUptoCard : Claim7 := { stood := { row := heldFlowUptoRow, standIns := [], harness := (true, "64a95c451a570ece57cf0e7e9a3e3cdb56e9a109581073e7aae68c43071f7e30"), looks := false }, kinds := [], alts := [], laidByText := true, laidKinds := [.data], laidTests := true, laidLooks := .later }
def HeldFlowUptoCardSaid : Prop := Claim7.holds Tryz.pinned (.plain (OpenSpec.upto heldFlowSpec)) heldFlowUptoCard

/-- THE SECOND FORM's CARD OF 'interleavelaw45.HeldDiscipline'. -/
def heldDisciplineUptoCard : Claim7 := { stood := { row := heldDisciplineUptoRow, standIns := [], harness := (true, "64a95c451a570ece57cf0e7e9a3e3cdb56e9a109581073e7aae68c43071f7e30"), looks := false }, kinds := [], alts := [], laidByText := true, laidKinds := [.data], laidTests := true, laidLooks := .later }
def HeldDisciplineUptoCardSaid : Prop := Claim7.holds Tryz.pinned (.plain (OpenSpec.upto heldDisciplineSpec)) heldDisciplineUptoCard

/-- THE SECOND FORM's CARD OF 'interleavelaw47.JustifyOne'. -/
def justifyOneUptoCard : Claim7 := { stood := { row := justifyOneUptoRow, standIns := [], harness := (true, "64a95c451a570ece57cf0e7e9a3e3cdb56e9a109581073e7aae68c43071f7e30"), looks := false }, kinds := [], alts := [], laidByText := true, laidKinds := [.wider], laidTests := true, laidLooks := .later }
def JustifyOneUptoCardSaid : Prop := Claim7.holds Tryz.pinned (.plain (OpenSpec.upto justifyOneSpec)) justifyOneUptoCard

/-- THE SECOND FORM's CARD OF 'interleavelaw47.JustifyCheck'. -/
def justifyCheckUptoCard : Claim7 := { stood := { row := justifyCheckUptoRow, standIns := [], harness := (true, "64a95c451a570ece57cf0e7e9a3e3cdb56e9a109581073e7aae68c43071f7e30"), looks := false }, kinds := [], alts := [], laidByText := true, laidKinds := [.wider], laidTests := true, laidLooks := .later }
def JustifyCheckUptoCardSaid : Prop := Claim7.holds Tryz.pinned (.plain (OpenSpec.upto justifyCheckSpec)) justifyCheckUptoCard

/-- THE SECOND FORM's CARD OF 'interleavelaw47.JustifyPlan'. -/
def justifyPlanUptoCard : Claim7 := { stood := { row := justifyPlanUptoRow, standIns := [], harness := (true, "64a95c451a570ece57cf0e7e9a3e3cdb56e9a109581073e7aae68c43071f7e30"), looks := false }, kinds := [], alts := [], laidByText := true, laidKinds := [.wider], laidTests := true, laidLooks := .later }
def JustifyPlanUptoCardSaid : Prop := Claim7.holds Tryz.pinned (.plain (OpenSpec.upto justifyPlanSpec)) justifyPlanUptoCard

/-- THE SECOND FORM's CARD OF 'interleavelaw47.JustifyMonotone'. -/
def justifyMonotoneUptoCard : Claim7 := { stood := { row := justifyMonotoneUptoRow, standIns := [], harness := (true, "64a95c451a570ece57cf0e7e9a3e3cdb56e9a109581073e7aae68c43071f7e30"), looks := false }, kinds := [], alts := [], laidByText := true, laidKinds := [.wider], laidTests := true, laidLooks := .later }
def JustifyMonotoneUptoCardSaid : Prop := Claim7.holds Tryz.pinned (.plain (OpenSpec.upto justifyMonotoneSpec)) justifyMonotoneUptoCard

/-- THE SECOND FORM's CARD OF 'interleavelaw46.ProbesPlan'. -/
def probesPlanUptoCard : Claim7 := { stood := { row := probesPlanUptoRow, standIns := [], harness := (true, "64a95c451a570ece57cf0e7e9a3e3cdb56e9a109581073e7aae68c43071f7e30"), looks := false }, kinds := [], alts := [], laidByText := true, laidKinds := [.data], laidTests := true, laidLooks := .later }
def ProbesPlanUptoCardSaid : Prop := Claim7.holds Tryz.pinned (.plain (OpenSpec.upto probesPlanSpec)) probesPlanUptoCard
end Rows
end Go.Proofs.YtfhhgjbcenhdeaaGreatDoor
