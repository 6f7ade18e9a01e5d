/-
  DERIVED. GIVEN WITH THE SEED: THE CARDS: each row of YtkbchpaofmlhgaaGreatDoorRows.lean that lists a variable, with what it lists TIED to the program's text (the seventh form; the later family's looks); each row that meets fmt, with fmt's text TOLD by the authors' own Lean function (tested against real Go, not proved from fmt's source: count such statements apart). THE CARD IS WHAT COUNTS. Prove the row's statement (the work); the ties are given (YtkbchpaofmlhgaaGreatDoorTie.lean); close each card by the builder's one call (the guide's Derived/Test/ToyasCard.lean, 'card_holds'). Laid BY PROGRAM, IN A SANDBOX (cutbox-door.mjs). By AI agents, Wed Nov 11 2026. No macro, syntax, notation, axiom, sorry.
-/
import Derived.Test.YtkbchpaofmlhgaaGreatDoorRows
import GoSem.ClaimSeven
namespace Go.Proofs.YtkbchpaofmlhgaaGreatDoor
namespace Rows

/-- THE TIED CARD OF 'rhytonlaw13.PrimBelow'. -/
def primBelowCard : Claim7 := { stood := { row := primBelowRow, standIns := [], harness := (true, "5b8feb630428970ea5df03e2029ded3194535895ae2a6cb0abd9a16062e5d534"), looks := false }, kinds := [], alts := [], laidByText := true, laidKinds := [.data, .data, .data], laidTests := true, laidLooks := .later }
def PrimBelowCardSaid : Prop := Claim7.holds Tryz.pinned (.plain (OpenSpec.ofChange primBelowSpec)) primBelowCard

/-- THE TIED CARD OF 'rhytonlaw13.PrimNumbers'. -/
def primNumbersCard : Claim7 := { stood := { row := primNumbersRow, standIns := [], harness := (true, "5b8feb630428970ea5df03e2029ded3194535895ae2a6cb0abd9a16062e5d534"), looks := false }, kinds := [], alts := [], laidByText := true, laidKinds := [.data, .data, .data], laidTests := true, laidLooks := .later }
def PrimNumbersCardSaid : Prop := Claim7.holds Tryz.pinned (.plain (OpenSpec.ofChange primNumbersSpec)) primNumbersCard

/-- THE TIED CARD OF 'rhytonlaw13.PrimMemory'. -/
def primMemoryCard : Claim7 := { stood := { row := primMemoryRow, standIns := [], harness := (true, "5b8feb630428970ea5df03e2029ded3194535895ae2a6cb0abd9a16062e5d534"), looks := false }, kinds := [], alts := [], laidByText := true, laidKinds := [.data, .data, .data], laidTests := true, laidLooks := .later }
def PrimMemoryCardSaid : Prop := Claim7.holds Tryz.pinned (.plain (OpenSpec.ofChange primMemorySpec)) primMemoryCard

/-- THE TIED CARD OF 'rhytonlaw13.PrimCells'. -/
def primCellsCard : Claim7 := { stood := { row := primCellsRow, standIns := [], harness := (true, "5b8feb630428970ea5df03e2029ded3194535895ae2a6cb0abd9a16062e5d534"), looks := false }, kinds := [], alts := [], laidByText := true, laidKinds := [.data, .data, .data], laidTests := true, laidLooks := .later }
def PrimCellsCardSaid : Prop := Claim7.holds Tryz.pinned (.plain (OpenSpec.ofChange primCellsSpec)) primCellsCard

/-- THE TIED CARD OF 'rhytonlaw13.PrimErrors'. -/
def primErrorsCard : Claim7 := { stood := { row := primErrorsRow, standIns := [], harness := (true, "5b8feb630428970ea5df03e2029ded3194535895ae2a6cb0abd9a16062e5d534"), looks := false }, kinds := [], alts := [], laidByText := true, laidKinds := [.data, .data, .data], laidTests := true, laidLooks := .later }
def PrimErrorsCardSaid : Prop := Claim7.holds Tryz.pinned (.plain (OpenSpec.ofChange primErrorsSpec)) primErrorsCard

/-- THE TIED CARD OF 'rhytonlaw13.PrimHolds'. -/
def primHoldsCard : Claim7 := { stood := { row := primHoldsRow, standIns := [], harness := (true, "5b8feb630428970ea5df03e2029ded3194535895ae2a6cb0abd9a16062e5d534"), looks := false }, kinds := [], alts := [], laidByText := true, laidKinds := [.data, .data, .data], laidTests := true, laidLooks := .later }
def PrimHoldsCardSaid : Prop := Claim7.holds Tryz.pinned (.plain (OpenSpec.ofChange primHoldsSpec)) primHoldsCard

/-- THE TIED CARD OF 'rhytonlaw13.PrimTells'. -/
def primTellsCard : Claim7 := { stood := { row := primTellsRow, standIns := [], harness := (true, "5b8feb630428970ea5df03e2029ded3194535895ae2a6cb0abd9a16062e5d534"), looks := false }, kinds := [], alts := [], laidByText := true, laidKinds := [.data, .data, .data], laidTests := true, laidLooks := .later }
def PrimTellsCardSaid : Prop := Claim7.holds Tryz.pinned (.plain (OpenSpec.ofChange primTellsSpec)) primTellsCard

/-- THE SECOND FORM's CARD OF 'rhytonlaw13.PrimBelow'. -/
def primBelowUptoCard : Claim7 := { stood := { row := primBelowUptoRow, standIns := [], harness := (true, "5b8feb630428970ea5df03e2029ded3194535895ae2a6cb0abd9a16062e5d534"), looks := false }, kinds := [], alts := [], laidByText := true, laidKinds := [.data, .data, .data], laidTests := true, laidLooks := .later }
def PrimBelowUptoCardSaid : Prop := Claim7.holds Tryz.pinned (.plain (OpenSpec.upto primBelowSpec)) primBelowUptoCard

/-- THE SECOND FORM's CARD OF 'rhytonlaw13.PrimNumbers'. -/
def primNumbersUptoCard : Claim7 := { stood := { row := primNumbersUptoRow, standIns := [], harness := (true, "5b8feb630428970ea5df03e2029ded3194535895ae2a6cb0abd9a16062e5d534"), looks := false }, kinds := [], alts := [], laidByText := true, laidKinds := [.data, .data, .data], laidTests := true, laidLooks := .later }
def PrimNumbersUptoCardSaid : Prop := Claim7.holds Tryz.pinned (.plain (OpenSpec.upto primNumbersSpec)) primNumbersUptoCard

/-- THE SECOND FORM's CARD OF 'rhytonlaw13.PrimMemory'. -/
def primMemoryUptoCard : Claim7 := { stood := { row := primMemoryUptoRow, standIns := [], harness := (true, "5b8feb630428970ea5df03e2029ded3194535895ae2a6cb0abd9a16062e5d534"), looks := false }, kinds := [], alts := [], laidByText := true, laidKinds := [.data, .data, .data], laidTests := true, laidLooks := .later }
def PrimMemoryUptoCardSaid : Prop := Claim7.holds Tryz.pinned (.plain (OpenSpec.upto primMemorySpec)) primMemoryUptoCard

/-- THE SECOND FORM's CARD OF 'rhytonlaw13.PrimCells'. -/
def primCellsUptoCard : Claim7 := { stood := { row := primCellsUptoRow, standIns := [], harness := (true, "5b8feb630428970ea5df03e2029ded3194535895ae2a6cb0abd9a16062e5d534"), looks := false }, kinds := [], alts := [], laidByText := true, laidKinds := [.data, .data, .data], laidTests := true, laidLooks := .later }
def PrimCellsUptoCardSaid : Prop := Claim7.holds Tryz.pinned (.plain (OpenSpec.upto primCellsSpec)) primCellsUptoCard

/-- THE SECOND FORM's CARD OF 'rhytonlaw13.PrimErrors'. -/
def primErrorsUptoCard : Claim7 := { stood := { row := primErrorsUptoRow, standIns := [], harness := (true, "5b8feb630428970ea5df03e2029ded3194535895ae2a6cb0abd9a16062e5d534"), looks := false }, kinds := [], alts := [], laidByText := true, laidKinds := [.data, .data, .data], laidTests := true, laidLooks := .later }
def PrimErrorsUptoCardSaid : Prop := Claim7.holds Tryz.pinned (.plain (OpenSpec.upto primErrorsSpec)) primErrorsUptoCard

/-- THE SECOND FORM's CARD OF 'rhytonlaw13.PrimHolds'. -/
def primHoldsUptoCard : Claim7 := { stood := { row := primHoldsUptoRow, standIns := [], harness := (true, "5b8feb630428970ea5df03e2029ded3194535895ae2a6cb0abd9a16062e5d534"), looks := false }, kinds := [], alts := [], laidByText := true, laidKinds := [.data, .data, .data], laidTests := true, laidLooks := .later }
def PrimHoldsUptoCardSaid : Prop := Claim7.holds Tryz.pinned (.plain (OpenSpec.upto primHoldsSpec)) primHoldsUptoCard

/-- THE SECOND FORM's CARD OF 'rhytonlaw13.PrimTells'. -/
def primTellsUptoCard : Claim7 := { stood := { row := primTellsUptoRow, standIns := [], harness := (true, "5b8feb630428970ea5df03e2029ded3194535895ae2a6cb0abd9a16062e5d534"), looks := false }, kinds := [], alts := [], laidByText := true, laidKinds := [.data, .data, .data], laidTests := true, laidLooks := .later }
def PrimTellsUptoCardSaid : Prop := Claim7.holds Tryz.pinned (.plain (OpenSpec.upto primTellsSpec)) primTellsUptoCard
end Rows
end Go.Proofs.YtkbchpaofmlhgaaGreatDoor
