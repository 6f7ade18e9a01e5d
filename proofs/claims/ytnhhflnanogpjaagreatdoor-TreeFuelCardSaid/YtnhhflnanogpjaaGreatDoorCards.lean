/-
  DERIVED. GIVEN WITH THE SEED: THE CARDS: each row of YtnhhflnanogpjaaGreatDoorRows.lean that lists a variable, with what it lists TIED to the program's text (the seventh form; the later family's looks); each row that meets fmt, with fmt's text TOLD by the authors' own Lean function (tested against real Go, not proved from fmt's source: count such statements apart). THE CARD IS WHAT COUNTS. Prove the row's statement (the work); the ties are given (YtnhhflnanogpjaaGreatDoorTie.lean); close each card by the builder's one call (the guide's Derived/Test/ToyasCard.lean, 'card_holds'). Laid BY PROGRAM, IN A SANDBOX (cutbox-door.mjs). By AI agents, Wed Nov 11 2026. No macro, syntax, notation, axiom, sorry.
-/
import Derived.Test.YtnhhflnanogpjaaGreatDoorRows
import GoSem.ClaimSeven
namespace Go.Proofs.YtnhhflnanogpjaaGreatDoor
namespace Rows

/-- THE TIED CARD OF 'rhytonlaw20.TreeFuel'. -/
def treeFuelCard : Claim7 := { stood := { row := treeFuelRow, standIns := [], harness := (true, "5a319c73f5d0735aa8b1278064fbe2a054942e655a5be1531a725f3cf33523e7"), looks := true }, kinds := [], alts := [], laidByText := true, laidKinds := [.data, .data, .data, .data, .pinned], laidTests := true, laidLooks := .later }
def TreeFuelCardSaid : Prop := Claim7.holds Tryz.pinned (.plain (OpenSpec.ofChange treeFuelSpec)) treeFuelCard

/-- THE TIED CARD OF 'rhytonlaw20.TreeSums'. -/
def treeSumsCard : Claim7 := { stood := { row := treeSumsRow, standIns := [], harness := (true, "5a319c73f5d0735aa8b1278064fbe2a054942e655a5be1531a725f3cf33523e7"), looks := true }, kinds := [], alts := [], laidByText := true, laidKinds := [.data, .data, .data, .data, .pinned], laidTests := true, laidLooks := .later }
def TreeSumsCardSaid : Prop := Claim7.holds Tryz.pinned (.plain (OpenSpec.ofChange treeSumsSpec)) treeSumsCard

/-- THE TIED CARD OF 'rhytonlaw20.TreeChoice'. -/
def treeChoiceCard : Claim7 := { stood := { row := treeChoiceRow, standIns := [], harness := (true, "5a319c73f5d0735aa8b1278064fbe2a054942e655a5be1531a725f3cf33523e7"), looks := true }, kinds := [], alts := [], laidByText := true, laidKinds := [.data, .data, .data, .data, .pinned], laidTests := true, laidLooks := .later }
def TreeChoiceCardSaid : Prop := Claim7.holds Tryz.pinned (.plain (OpenSpec.ofChange treeChoiceSpec)) treeChoiceCard

/-- THE SECOND FORM's CARD OF 'rhytonlaw20.TreeFuel'. -/
def treeFuelUptoCard : Claim7 := { stood := { row := treeFuelUptoRow, standIns := [], harness := (true, "5a319c73f5d0735aa8b1278064fbe2a054942e655a5be1531a725f3cf33523e7"), looks := true }, kinds := [], alts := [], laidByText := true, laidKinds := [.data, .data, .data, .data, .pinned], laidTests := true, laidLooks := .later }
def TreeFuelUptoCardSaid : Prop := Claim7.holds Tryz.pinned (.plain (OpenSpec.upto treeFuelSpec)) treeFuelUptoCard

/-- THE SECOND FORM's CARD OF 'rhytonlaw20.TreeSums'. -/
def treeSumsUptoCard : Claim7 := { stood := { row := treeSumsUptoRow, standIns := [], harness := (true, "5a319c73f5d0735aa8b1278064fbe2a054942e655a5be1531a725f3cf33523e7"), looks := true }, kinds := [], alts := [], laidByText := true, laidKinds := [.data, .data, .data, .data, .pinned], laidTests := true, laidLooks := .later }
def TreeSumsUptoCardSaid : Prop := Claim7.holds Tryz.pinned (.plain (OpenSpec.upto treeSumsSpec)) treeSumsUptoCard

/-- THE SECOND FORM's CARD OF 'rhytonlaw20.TreeChoice'. -/
def treeChoiceUptoCard : Claim7 := { stood := { row := treeChoiceUptoRow, standIns := [], harness := (true, "5a319c73f5d0735aa8b1278064fbe2a054942e655a5be1531a725f3cf33523e7"), looks := true }, kinds := [], alts := [], laidByText := true, laidKinds := [.data, .data, .data, .data, .pinned], laidTests := true, laidLooks := .later }
def TreeChoiceUptoCardSaid : Prop := Claim7.holds Tryz.pinned (.plain (OpenSpec.upto treeChoiceSpec)) treeChoiceUptoCard
end Rows
end Go.Proofs.YtnhhflnanogpjaaGreatDoor
