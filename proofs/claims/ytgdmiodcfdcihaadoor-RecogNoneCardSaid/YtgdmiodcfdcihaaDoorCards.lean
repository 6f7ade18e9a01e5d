/-
  DERIVED. GIVEN WITH THE SEED: THE CARDS: each row of YtgdmiodcfdcihaaDoorRows.lean that lists a variable, with what it lists TIED to the program's text (the seventh form; the later family's looks); each row that meets fmt, with fmt's text TOLD by the authors' own Lean function (tested against real Go, not proved from fmt's source: count such statements apart). THE CARD IS WHAT COUNTS. Prove the row's statement (the work); the ties are given (YtgdmiodcfdcihaaDoorTie.lean); close each card by the builder's one call (the guide's Derived/Test/ToyasCard.lean, 'card_holds'). Laid BY PROGRAM, IN A SANDBOX (cutbox-door.mjs). By AI agents, Wed Nov 11 2026. No macro, syntax, notation, axiom, sorry.
-/
import Derived.Test.YtgdmiodcfdcihaaDoorRows
import GoSem.ClaimSeven
namespace Go.Proofs.YtgdmiodcfdcihaaDoor
namespace Rows

/-- THE TIED CARD OF 'rhytonlaw16.RecogNone'. -/
def recogNoneCard : Claim7 := { stood := { row := recogNoneRow, standIns := [], harness := (true, "14ff52cde83d119776798d17353f08b9c99523f4e0a04abbe14c3da207094694"), looks := true }, kinds := [], alts := [], laidByText := true, laidKinds := [.data, .data, .data, .sentinel, .sentinel], laidTests := true, laidLooks := .later }
def RecogNoneCardSaid : Prop := Claim7.holds Tryd.pinned (.plain (OpenSpec.ofChange recogNoneSpec)) recogNoneCard

/-- THE TIED CARD OF 'rhytonlaw16.RecogLocals'. -/
def recogLocalsCard : Claim7 := { stood := { row := recogLocalsRow, standIns := [], harness := (true, "14ff52cde83d119776798d17353f08b9c99523f4e0a04abbe14c3da207094694"), looks := true }, kinds := [], alts := [], laidByText := true, laidKinds := [.data, .data, .data, .sentinel, .sentinel], laidTests := true, laidLooks := .later }
def RecogLocalsCardSaid : Prop := Claim7.holds Tryd.pinned (.plain (OpenSpec.ofChange recogLocalsSpec)) recogLocalsCard

/-- THE TIED CARD OF 'rhytonlaw16.RecogTells'. -/
def recogTellsCard : Claim7 := { stood := { row := recogTellsRow, standIns := [], harness := (true, "14ff52cde83d119776798d17353f08b9c99523f4e0a04abbe14c3da207094694"), looks := true }, kinds := [], alts := [], laidByText := true, laidKinds := [.data, .data, .data, .sentinel, .sentinel], laidTests := true, laidLooks := .later }
def RecogTellsCardSaid : Prop := Claim7.holds Tryd.pinned (.plain (OpenSpec.ofChange recogTellsSpec)) recogTellsCard

/-- THE SECOND FORM's CARD OF 'rhytonlaw16.RecogNone'. -/
def recogNoneUptoCard : Claim7 := { stood := { row := recogNoneUptoRow, standIns := [], harness := (true, "14ff52cde83d119776798d17353f08b9c99523f4e0a04abbe14c3da207094694"), looks := true }, kinds := [], alts := [], laidByText := true, laidKinds := [.data, .data, .data, .sentinel, .sentinel], laidTests := true, laidLooks := .later }
def RecogNoneUptoCardSaid : Prop := Claim7.holds Tryd.pinned (.plain (OpenSpec.upto recogNoneSpec)) recogNoneUptoCard

/-- THE SECOND FORM's CARD OF 'rhytonlaw16.RecogLocals'. -/
def recogLocalsUptoCard : Claim7 := { stood := { row := recogLocalsUptoRow, standIns := [], harness := (true, "14ff52cde83d119776798d17353f08b9c99523f4e0a04abbe14c3da207094694"), looks := true }, kinds := [], alts := [], laidByText := true, laidKinds := [.data, .data, .data, .sentinel, .sentinel], laidTests := true, laidLooks := .later }
def RecogLocalsUptoCardSaid : Prop := Claim7.holds Tryd.pinned (.plain (OpenSpec.upto recogLocalsSpec)) recogLocalsUptoCard

/-- THE SECOND FORM's CARD OF 'rhytonlaw16.RecogTells'. -/
def recogTellsUptoCard : Claim7 := { stood := { row := recogTellsUptoRow, standIns := [], harness := (true, "14ff52cde83d119776798d17353f08b9c99523f4e0a04abbe14c3da207094694"), looks := true }, kinds := [], alts := [], laidByText := true, laidKinds := [.data, .data, .data, .sentinel, .sentinel], laidTests := true, laidLooks := .later }
def RecogTellsUptoCardSaid : Prop := Claim7.holds Tryd.pinned (.plain (OpenSpec.upto recogTellsSpec)) recogTellsUptoCard
end Rows
end Go.Proofs.YtgdmiodcfdcihaaDoor
