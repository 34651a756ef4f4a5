/-
  DERIVED. GIVEN WITH THE SEED: THE CARDS: each row of YteaedkohbgediaaDoorRows.lean that lists a variable, with what it lists TIED to the program's text (the seventh form; the later family's looks); each row that meets fmt, with fmt's text TOLD by the authors' own Lean function (tested against real Go, not proved from fmt's source: count such statements apart). THE CARD IS WHAT COUNTS. Prove the row's statement (the work); the ties are given (YteaedkohbgediaaDoorTie.lean); close each card by the builder's one call (the guide's Derived/Test/ToyasCard.lean, 'card_holds'). Laid BY PROGRAM, IN A SANDBOX (cutbox-door.mjs). By AI agents, Wed Nov 11 2026. No macro, syntax, notation, axiom, sorry.
-/
import Derived.Test.YteaedkohbgediaaDoorRows
import GoSem.ClaimSeven
namespace Go.Proofs.YteaedkohbgediaaDoor
namespace Rows

/-- THE TIED CARD OF 'tappetlaw03.LinesPrints'. -/
def linesPrintsCard : Claim7 := { stood := { row := linesPrintsRow, standIns := [], harness := (true, "c37e820592ea4c25d5b3c614082be4b7a4f67dd13e3b23fffa9533915f63dd31"), looks := true }, kinds := [], alts := [], laidByText := true, laidKinds := [.data, .data, .data, .data, .data, .sentinel, .sentinel, .pinned], laidTests := true, laidLooks := .later }
def LinesPrintsCardSaid : Prop := Claim7.holds Tryd.pinned (.plain (OpenSpec.ofChange linesPrintsSpec)) linesPrintsCard

/-- THE TIED CARD OF 'tappetlaw03.LinesParses'. -/
def linesParsesCard : Claim7 := { stood := { row := linesParsesRow, standIns := [], harness := (true, "c37e820592ea4c25d5b3c614082be4b7a4f67dd13e3b23fffa9533915f63dd31"), looks := true }, kinds := [], alts := [], laidByText := true, laidKinds := [.data, .data, .data, .data, .data, .sentinel, .sentinel, .pinned], laidTests := true, laidLooks := .later }
def LinesParsesCardSaid : Prop := Claim7.holds Tryd.pinned (.plain (OpenSpec.ofChange linesParsesSpec)) linesParsesCard

/-- THE TIED CARD OF 'tappetlaw03.LinesBack'. -/
def linesBackCard : Claim7 := { stood := { row := linesBackRow, standIns := [], harness := (true, "c37e820592ea4c25d5b3c614082be4b7a4f67dd13e3b23fffa9533915f63dd31"), looks := true }, kinds := [], alts := [], laidByText := true, laidKinds := [.data, .data, .data, .data, .data, .sentinel, .sentinel, .pinned], laidTests := true, laidLooks := .later }
def LinesBackCardSaid : Prop := Claim7.holds Tryd.pinned (.plain (OpenSpec.ofChange linesBackSpec)) linesBackCard

/-- THE TIED CARD OF 'tappetlaw03.LinesJoined'. -/
def linesJoinedCard : Claim7 := { stood := { row := linesJoinedRow, standIns := [], harness := (true, "c37e820592ea4c25d5b3c614082be4b7a4f67dd13e3b23fffa9533915f63dd31"), looks := true }, kinds := [], alts := [], laidByText := true, laidKinds := [.data, .data, .data, .data, .data, .sentinel, .sentinel, .pinned], laidTests := true, laidLooks := .later }
def LinesJoinedCardSaid : Prop := Claim7.holds Tryd.pinned (.plain (OpenSpec.ofChange linesJoinedSpec)) linesJoinedCard

/-- THE TIED CARD OF 'tappetlaw03.LinesFresh'. -/
def linesFreshCard : Claim7 := { stood := { row := linesFreshRow, standIns := [], harness := (true, "c37e820592ea4c25d5b3c614082be4b7a4f67dd13e3b23fffa9533915f63dd31"), looks := true }, kinds := [], alts := [], laidByText := true, laidKinds := [.data, .data, .data, .data, .data, .sentinel, .sentinel, .pinned], laidTests := true, laidLooks := .later }
def LinesFreshCardSaid : Prop := Claim7.holds Tryd.pinned (.plain (OpenSpec.ofChange linesFreshSpec)) linesFreshCard

/-- THE TIED CARD OF 'tappetlaw03.LinesEach'. -/
def linesEachCard : Claim7 := { stood := { row := linesEachRow, standIns := [], harness := (true, "c37e820592ea4c25d5b3c614082be4b7a4f67dd13e3b23fffa9533915f63dd31"), looks := true }, kinds := [], alts := [], laidByText := true, laidKinds := [.data, .data, .data, .data, .data, .sentinel, .sentinel, .pinned], laidTests := true, laidLooks := .later }
def LinesEachCardSaid : Prop := Claim7.holds Tryd.pinned (.plain (OpenSpec.ofChange linesEachSpec)) linesEachCard

/-- THE SECOND FORM's CARD OF 'tappetlaw03.LinesPrints'. -/
def linesPrintsUptoCard : Claim7 := { stood := { row := linesPrintsUptoRow, standIns := [], harness := (true, "c37e820592ea4c25d5b3c614082be4b7a4f67dd13e3b23fffa9533915f63dd31"), looks := true }, kinds := [], alts := [], laidByText := true, laidKinds := [.data, .data, .data, .data, .data, .sentinel, .sentinel, .pinned], laidTests := true, laidLooks := .later }
def LinesPrintsUptoCardSaid : Prop := Claim7.holds Tryd.pinned (.plain (OpenSpec.upto linesPrintsSpec)) linesPrintsUptoCard

/-- THE SECOND FORM's CARD OF 'tappetlaw03.LinesParses'. -/
def linesParsesUptoCard : Claim7 := { stood := { row := linesParsesUptoRow, standIns := [], harness := (true, "c37e820592ea4c25d5b3c614082be4b7a4f67dd13e3b23fffa9533915f63dd31"), looks := true }, kinds := [], alts := [], laidByText := true, laidKinds := [.data, .data, .data, .data, .data, .sentinel, .sentinel, .pinned], laidTests := true, laidLooks := .later }
def LinesParsesUptoCardSaid : Prop := Claim7.holds Tryd.pinned (.plain (OpenSpec.upto linesParsesSpec)) linesParsesUptoCard

/-- THE SECOND FORM's CARD OF 'tappetlaw03.LinesBack'. -/
def linesBackUptoCard : Claim7 := { stood := { row := linesBackUptoRow, standIns := [], harness := (true, "c37e820592ea4c25d5b3c614082be4b7a4f67dd13e3b23fffa9533915f63dd31"), looks := true }, kinds := [], alts := [], laidByText := true, laidKinds := [.data, .data, .data, .data, .data, .sentinel, .sentinel, .pinned], laidTests := true, laidLooks := .later }
def LinesBackUptoCardSaid : Prop := Claim7.holds Tryd.pinned (.plain (OpenSpec.upto linesBackSpec)) linesBackUptoCard

/-- THE SECOND FORM's CARD OF 'tappetlaw03.LinesJoined'. -/
def linesJoinedUptoCard : Claim7 := { stood := { row := linesJoinedUptoRow, standIns := [], harness := (true, "c37e820592ea4c25d5b3c614082be4b7a4f67dd13e3b23fffa9533915f63dd31"), looks := true }, kinds := [], alts := [], laidByText := true, laidKinds := [.data, .data, .data, .data, .data, .sentinel, .sentinel, .pinned], laidTests := true, laidLooks := .later }
def LinesJoinedUptoCardSaid : Prop := Claim7.holds Tryd.pinned (.plain (OpenSpec.upto linesJoinedSpec)) linesJoinedUptoCard

/-- THE SECOND FORM's CARD OF 'tappetlaw03.LinesFresh'. -/
def linesFreshUptoCard : Claim7 := { stood := { row := linesFreshUptoRow, standIns := [], harness := (true, "c37e820592ea4c25d5b3c614082be4b7a4f67dd13e3b23fffa9533915f63dd31"), looks := true }, kinds := [], alts := [], laidByText := true, laidKinds := [.data, .data, .data, .data, .data, .sentinel, .sentinel, .pinned], laidTests := true, laidLooks := .later }
def LinesFreshUptoCardSaid : Prop := Claim7.holds Tryd.pinned (.plain (OpenSpec.upto linesFreshSpec)) linesFreshUptoCard

/-- THE SECOND FORM's CARD OF 'tappetlaw03.LinesEach'. -/
def linesEachUptoCard : Claim7 := { stood := { row := linesEachUptoRow, standIns := [], harness := (true, "c37e820592ea4c25d5b3c614082be4b7a4f67dd13e3b23fffa9533915f63dd31"), looks := true }, kinds := [], alts := [], laidByText := true, laidKinds := [.data, .data, .data, .data, .data, .sentinel, .sentinel, .pinned], laidTests := true, laidLooks := .later }
def LinesEachUptoCardSaid : Prop := Claim7.holds Tryd.pinned (.plain (OpenSpec.upto linesEachSpec)) linesEachUptoCard
end Rows
end Go.Proofs.YteaedkohbgediaaDoor
