/-
  DERIVED. GIVEN WITH THE SEED: THE CARDS: each row of YtibifcchmccknaaDoorRows.lean that lists a variable, with what it lists TIED to the program's text (the seventh form; the later family's looks); each row that meets fmt, with fmt's text TOLD by the authors' own Lean function (tested against real Go, not proved from fmt's source: count such statements apart). THE CARD IS WHAT COUNTS. Prove the row's statement (the work); the ties are given (YtibifcchmccknaaDoorTie.lean); close each card by the builder's one call (the guide's Derived/Test/ToyasCard.lean, 'card_holds'). Laid BY PROGRAM, IN A SANDBOX (cutbox-door.mjs). By AI agents, Wed Nov 11 2026. No macro, syntax, notation, axiom, sorry.
-/
import Derived.Test.YtibifcchmccknaaDoorRows
import GoSem.ClaimSeven
namespace Go.Proofs.YtibifcchmccknaaDoor
namespace Rows

/-- THE TIED CARD OF 'rhytonlaw04.RealOrders'. -/
def realOrdersCard : Claim7 := { stood := { row := realOrdersRow, standIns := [], harness := (true, "6f5b0d7f2180b776a7d7133b0505789d9bc479565d7ed0b41133e503fa69ba4f"), looks := true }, kinds := [], alts := [], laidByText := true, laidKinds := [.data, .data, .data], laidTests := true, laidLooks := .later }
def RealOrdersCardSaid : Prop := Claim7.holds Tryd.pinned (.plain (OpenSpec.ofChange realOrdersSpec)) realOrdersCard

/-- THE TIED CARD OF 'rhytonlaw04.RealWhole'. -/
def realWholeCard : Claim7 := { stood := { row := realWholeRow, standIns := [], harness := (true, "6f5b0d7f2180b776a7d7133b0505789d9bc479565d7ed0b41133e503fa69ba4f"), looks := true }, kinds := [], alts := [], laidByText := true, laidKinds := [.data, .data, .data], laidTests := true, laidLooks := .later }
def RealWholeCardSaid : Prop := Claim7.holds Tryd.pinned (.plain (OpenSpec.ofChange realWholeSpec)) realWholeCard

/-- THE TIED CARD OF 'rhytonlaw04.RealCells'. -/
def realCellsCard : Claim7 := { stood := { row := realCellsRow, standIns := [], harness := (true, "6f5b0d7f2180b776a7d7133b0505789d9bc479565d7ed0b41133e503fa69ba4f"), looks := true }, kinds := [], alts := [], laidByText := true, laidKinds := [.data, .data, .data], laidTests := true, laidLooks := .later }
def RealCellsCardSaid : Prop := Claim7.holds Tryd.pinned (.plain (OpenSpec.ofChange realCellsSpec)) realCellsCard

/-- THE TIED CARD OF 'rhytonlaw04.RealTexts'. -/
def realTextsCard : Claim7 := { stood := { row := realTextsRow, standIns := [], harness := (true, "6f5b0d7f2180b776a7d7133b0505789d9bc479565d7ed0b41133e503fa69ba4f"), looks := true }, kinds := [], alts := [], laidByText := true, laidKinds := [.data, .data, .data, .sentinel, .sentinel], laidTests := true, laidLooks := .later }
def RealTextsCardSaid : Prop := Claim7.holds Tryd.pinned (.plain (OpenSpec.ofChange realTextsSpec)) realTextsCard

/-- THE TIED CARD OF 'rhytonlaw04.RealBack'. -/
def realBackCard : Claim7 := { stood := { row := realBackRow, standIns := [], harness := (true, "6f5b0d7f2180b776a7d7133b0505789d9bc479565d7ed0b41133e503fa69ba4f"), looks := true }, kinds := [], alts := [], laidByText := true, laidKinds := [.data, .data, .data, .sentinel, .sentinel], laidTests := true, laidLooks := .later }
def RealBackCardSaid : Prop := Claim7.holds Tryd.pinned (.plain (OpenSpec.ofChange realBackSpec)) realBackCard

/-- THE SECOND FORM's CARD OF 'rhytonlaw04.RealOrders'. -/
def realOrdersUptoCard : Claim7 := { stood := { row := realOrdersUptoRow, standIns := [], harness := (true, "6f5b0d7f2180b776a7d7133b0505789d9bc479565d7ed0b41133e503fa69ba4f"), looks := true }, kinds := [], alts := [], laidByText := true, laidKinds := [.data, .data, .data], laidTests := true, laidLooks := .later }
def RealOrdersUptoCardSaid : Prop := Claim7.holds Tryd.pinned (.plain (OpenSpec.upto realOrdersSpec)) realOrdersUptoCard

/-- THE SECOND FORM's CARD OF 'rhytonlaw04.RealWhole'. -/
def realWholeUptoCard : Claim7 := { stood := { row := realWholeUptoRow, standIns := [], harness := (true, "6f5b0d7f2180b776a7d7133b0505789d9bc479565d7ed0b41133e503fa69ba4f"), looks := true }, kinds := [], alts := [], laidByText := true, laidKinds := [.data, .data, .data], laidTests := true, laidLooks := .later }
def RealWholeUptoCardSaid : Prop := Claim7.holds Tryd.pinned (.plain (OpenSpec.upto realWholeSpec)) realWholeUptoCard

/-- THE SECOND FORM's CARD OF 'rhytonlaw04.RealCells'. -/
def realCellsUptoCard : Claim7 := { stood := { row := realCellsUptoRow, standIns := [], harness := (true, "6f5b0d7f2180b776a7d7133b0505789d9bc479565d7ed0b41133e503fa69ba4f"), looks := true }, kinds := [], alts := [], laidByText := true, laidKinds := [.data, .data, .data], laidTests := true, laidLooks := .later }
def RealCellsUptoCardSaid : Prop := Claim7.holds Tryd.pinned (.plain (OpenSpec.upto realCellsSpec)) realCellsUptoCard

/-- THE SECOND FORM's CARD OF 'rhytonlaw04.RealTexts'. -/
def realTextsUptoCard : Claim7 := { stood := { row := realTextsUptoRow, standIns := [], harness := (true, "6f5b0d7f2180b776a7d7133b0505789d9bc479565d7ed0b41133e503fa69ba4f"), looks := true }, kinds := [], alts := [], laidByText := true, laidKinds := [.data, .data, .data, .sentinel, .sentinel], laidTests := true, laidLooks := .later }
def RealTextsUptoCardSaid : Prop := Claim7.holds Tryd.pinned (.plain (OpenSpec.upto realTextsSpec)) realTextsUptoCard

/-- THE SECOND FORM's CARD OF 'rhytonlaw04.RealBack'. -/
def realBackUptoCard : Claim7 := { stood := { row := realBackUptoRow, standIns := [], harness := (true, "6f5b0d7f2180b776a7d7133b0505789d9bc479565d7ed0b41133e503fa69ba4f"), looks := true }, kinds := [], alts := [], laidByText := true, laidKinds := [.data, .data, .data, .sentinel, .sentinel], laidTests := true, laidLooks := .later }
def RealBackUptoCardSaid : Prop := Claim7.holds Tryd.pinned (.plain (OpenSpec.upto realBackSpec)) realBackUptoCard
end Rows
end Go.Proofs.YtibifcchmccknaaDoor
