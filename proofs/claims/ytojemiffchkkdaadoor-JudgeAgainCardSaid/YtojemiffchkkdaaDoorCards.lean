/-
  DERIVED. GIVEN WITH THE SEED: THE CARDS: each row of YtojemiffchkkdaaDoorRows.lean that lists a variable, with what it lists TIED to the program's text (the seventh form; the later family's looks); each row that meets fmt, with fmt's text TOLD by the authors' own Lean function (tested against real Go, not proved from fmt's source: count such statements apart). THE CARD IS WHAT COUNTS. Prove the row's statement (the work); the ties are given (YtojemiffchkkdaaDoorTie.lean); close each card by the builder's one call (the guide's Derived/Test/ToyasCard.lean, 'card_holds'). Laid BY PROGRAM, IN A SANDBOX (cutbox-door.mjs). By AI agents, Wed Nov 11 2026. No macro, syntax, notation, axiom, sorry.
-/
import Derived.Test.YtojemiffchkkdaaDoorRows
import GoSem.ClaimSeven
namespace Go.Proofs.YtojemiffchkkdaaDoor
namespace Rows

/-- THE TIED CARD OF 'tappetlaw09.JudgeLoops'. -/
def judgeLoopsCard : Claim7 := { stood := { row := judgeLoopsRow, standIns := [], harness := (true, "5b1dcbf91283b14ce829d0067ea8bffbb521782720dbe9a4d216bf5c7e275476"), looks := false }, kinds := [], alts := [], laidByText := true, laidKinds := [.data, .data], laidTests := true, laidLooks := .later }
def JudgeLoopsCardSaid : Prop := Claim7.holds Tryd.pinned (.plain (OpenSpec.ofChange judgeLoopsSpec)) judgeLoopsCard

/-- THE TIED CARD OF 'tappetlaw09.JudgeAgain'. -/
def judgeAgainCard : Claim7 := { stood := { row := judgeAgainRow, standIns := [], harness := (true, "5b1dcbf91283b14ce829d0067ea8bffbb521782720dbe9a4d216bf5c7e275476"), looks := false }, kinds := [], alts := [], laidByText := true, laidKinds := [.data, .data], laidTests := true, laidLooks := .later }
def JudgeAgainCardSaid : Prop := Claim7.holds Tryd.pinned (.plain (OpenSpec.ofChange judgeAgainSpec)) judgeAgainCard

/-- THE SECOND FORM's CARD OF 'tappetlaw09.JudgeLoops'. -/
def judgeLoopsUptoCard : Claim7 := { stood := { row := judgeLoopsUptoRow, standIns := [], harness := (true, "5b1dcbf91283b14ce829d0067ea8bffbb521782720dbe9a4d216bf5c7e275476"), looks := false }, kinds := [], alts := [], laidByText := true, laidKinds := [.data, .data], laidTests := true, laidLooks := .later }
def JudgeLoopsUptoCardSaid : Prop := Claim7.holds Tryd.pinned (.plain (OpenSpec.upto judgeLoopsSpec)) judgeLoopsUptoCard

/-- THE SECOND FORM's CARD OF 'tappetlaw09.JudgeAgain'. -/
def judgeAgainUptoCard : Claim7 := { stood := { row := judgeAgainUptoRow, standIns := [], harness := (true, "5b1dcbf91283b14ce829d0067ea8bffbb521782720dbe9a4d216bf5c7e275476"), looks := false }, kinds := [], alts := [], laidByText := true, laidKinds := [.data, .data], laidTests := true, laidLooks := .later }
def JudgeAgainUptoCardSaid : Prop := Claim7.holds Tryd.pinned (.plain (OpenSpec.upto judgeAgainSpec)) judgeAgainUptoCard
end Rows
end Go.Proofs.YtojemiffchkkdaaDoor
