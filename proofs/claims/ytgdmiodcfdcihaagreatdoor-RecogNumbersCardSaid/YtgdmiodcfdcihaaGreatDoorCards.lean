/-
  DERIVED. GIVEN WITH THE SEED: THE CARDS: each row of YtgdmiodcfdcihaaGreatDoorRows.lean that lists a variable, with what it lists TIED to the program's text (the seventh form; the later family's looks); each row that meets fmt, with fmt's text TOLD by the authors' own Lean function (tested against real Go, not proved from fmt's source: count such statements apart). THE CARD IS WHAT COUNTS. Prove the row's statement (the work); the ties are given (YtgdmiodcfdcihaaGreatDoorTie.lean); close each card by the builder's one call (the guide's Derived/Test/ToyasCard.lean, 'card_holds'). Laid BY PROGRAM, IN A SANDBOX (cutbox-door.mjs). By AI agents, Wed Nov 11 2026. No macro, syntax, notation, axiom, sorry.
-/
import Derived.Test.YtgdmiodcfdcihaaGreatDoorRows
import GoSem.ClaimSeven
namespace Go.Proofs.YtgdmiodcfdcihaaGreatDoor
namespace Rows

/-- THE TIED CARD OF 'rhytonlaw16.RecogLetters'. -/
def recogLettersCard : Claim7 := { stood := { row := recogLettersRow, standIns := [], harness := (true, "7fef3208a2f99683c40888bc9c5eb892537554b51d8f3b2f1c6a51d2a574047b"), looks := true }, kinds := [], alts := [], laidByText := true, laidKinds := [.data, .data, .data, .sentinel, .sentinel], laidTests := true, laidLooks := .later }
def RecogLettersCardSaid : Prop := Claim7.holds Tryz.pinned (.plain (OpenSpec.ofChange recogLettersSpec)) recogLettersCard

/-- THE TIED CARD OF 'rhytonlaw16.RecogNumbers'. -/
def recogNumbersCard : Claim7 := { stood := { row := recogNumbersRow, standIns := [], harness := (true, "7fef3208a2f99683c40888bc9c5eb892537554b51d8f3b2f1c6a51d2a574047b"), looks := true }, kinds := [], alts := [], laidByText := true, laidKinds := [.data, .data, .data, .sentinel, .sentinel], laidTests := true, laidLooks := .later }
def RecogNumbersCardSaid : Prop := Claim7.holds Tryz.pinned (.plain (OpenSpec.ofChange recogNumbersSpec)) recogNumbersCard

/-- THE TIED CARD OF 'rhytonlaw16.RecogOrder'. -/
def recogOrderCard : Claim7 := { stood := { row := recogOrderRow, standIns := [], harness := (true, "7fef3208a2f99683c40888bc9c5eb892537554b51d8f3b2f1c6a51d2a574047b"), looks := true }, kinds := [], alts := [], laidByText := true, laidKinds := [.data, .data, .data, .sentinel, .sentinel], laidTests := true, laidLooks := .later }
def RecogOrderCardSaid : Prop := Claim7.holds Tryz.pinned (.plain (OpenSpec.ofChange recogOrderSpec)) recogOrderCard

/-- THE SECOND FORM's CARD OF 'rhytonlaw16.RecogLetters'. -/
def recogLettersUptoCard : Claim7 := { stood := { row := recogLettersUptoRow, standIns := [], harness := (true, "7fef3208a2f99683c40888bc9c5eb892537554b51d8f3b2f1c6a51d2a574047b"), looks := true }, kinds := [], alts := [], laidByText := true, laidKinds := [.data, .data, .data, .sentinel, .sentinel], laidTests := true, laidLooks := .later }
def RecogLettersUptoCardSaid : Prop := Claim7.holds Tryz.pinned (.plain (OpenSpec.upto recogLettersSpec)) recogLettersUptoCard

/-- THE SECOND FORM's CARD OF 'rhytonlaw16.RecogNumbers'. -/
def recogNumbersUptoCard : Claim7 := { stood := { row := recogNumbersUptoRow, standIns := [], harness := (true, "7fef3208a2f99683c40888bc9c5eb892537554b51d8f3b2f1c6a51d2a574047b"), looks := true }, kinds := [], alts := [], laidByText := true, laidKinds := [.data, .data, .data, .sentinel, .sentinel], laidTests := true, laidLooks := .later }
def RecogNumbersUptoCardSaid : Prop := Claim7.holds Tryz.pinned (.plain (OpenSpec.upto recogNumbersSpec)) recogNumbersUptoCard

/-- THE SECOND FORM's CARD OF 'rhytonlaw16.RecogOrder'. -/
def recogOrderUptoCard : Claim7 := { stood := { row := recogOrderUptoRow, standIns := [], harness := (true, "7fef3208a2f99683c40888bc9c5eb892537554b51d8f3b2f1c6a51d2a574047b"), looks := true }, kinds := [], alts := [], laidByText := true, laidKinds := [.data, .data, .data, .sentinel, .sentinel], laidTests := true, laidLooks := .later }
def RecogOrderUptoCardSaid : Prop := Claim7.holds Tryz.pinned (.plain (OpenSpec.upto recogOrderSpec)) recogOrderUptoCard
end Rows
end Go.Proofs.YtgdmiodcfdcihaaGreatDoor
