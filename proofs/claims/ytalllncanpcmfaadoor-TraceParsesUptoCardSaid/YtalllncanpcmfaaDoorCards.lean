/-
  DERIVED. GIVEN WITH THE SEED: THE CARDS: each row of YtalllncanpcmfaaDoorRows.lean that lists a variable, with what it lists TIED to the program's text (the seventh form; the later family's looks); each row that meets fmt, with fmt's text TOLD by the authors' own Lean function (tested against real Go, not proved from fmt's source: count such statements apart). THE CARD IS WHAT COUNTS. Prove the row's statement (the work); the ties are given (YtalllncanpcmfaaDoorTie.lean); close each card by the builder's one call (the guide's Derived/Test/ToyasCard.lean, 'card_holds'). Laid BY PROGRAM, IN A SANDBOX (cutbox-door.mjs). By AI agents, Wed Nov 11 2026. No macro, syntax, notation, axiom, sorry.
-/
import Derived.Test.YtalllncanpcmfaaDoorRows
import GoSem.ClaimSeven
namespace Go.Proofs.YtalllncanpcmfaaDoor
namespace Rows

/-- THE TIED CARD OF 'tappetlaw26.TraceParses'. -/
def traceParsesCard : Claim7 := { stood := { row := traceParsesRow, standIns := [], harness := (true, "f258b81b547844cbdd7aace783eccf325617412be4a6de0273e6641365e66a99"), looks := true }, kinds := [], alts := [], laidByText := true, laidKinds := [.data, .data, .data, .data, .sentinel, .sentinel, .data, .pinned], laidTests := true, laidLooks := .later }
def TraceParsesCardSaid : Prop := Claim7.holds Tryd.pinned (.plain (OpenSpec.ofChange traceParsesSpec)) traceParsesCard

/-- THE TIED CARD OF 'tappetlaw26.TraceBack'. -/
def traceBackCard : Claim7 := { stood := { row := traceBackRow, standIns := [], harness := (true, "f258b81b547844cbdd7aace783eccf325617412be4a6de0273e6641365e66a99"), looks := true }, kinds := [], alts := [], laidByText := true, laidKinds := [.data, .data, .data, .data, .sentinel, .sentinel, .data, .pinned], laidTests := true, laidLooks := .later }
def TraceBackCardSaid : Prop := Claim7.holds Tryd.pinned (.plain (OpenSpec.ofChange traceBackSpec)) traceBackCard

/-- THE TIED CARD OF 'tappetlaw26.TracePrints'. -/
def tracePrintsCard : Claim7 := { stood := { row := tracePrintsRow, standIns := [], harness := (true, "f258b81b547844cbdd7aace783eccf325617412be4a6de0273e6641365e66a99"), looks := true }, kinds := [], alts := [], laidByText := true, laidKinds := [.data, .data, .data, .data, .sentinel, .sentinel, .data, .pinned], laidTests := true, laidLooks := .later }
def TracePrintsCardSaid : Prop := Claim7.holds Tryd.pinned (.plain (OpenSpec.ofChange tracePrintsSpec)) tracePrintsCard

/-- THE TIED CARD OF 'tappetlaw26.TraceEach'. -/
def traceEachCard : Claim7 := { stood := { row := traceEachRow, standIns := [], harness := (true, "f258b81b547844cbdd7aace783eccf325617412be4a6de0273e6641365e66a99"), looks := true }, kinds := [], alts := [], laidByText := true, laidKinds := [.data, .data, .data, .data, .sentinel, .sentinel, .data, .pinned], laidTests := true, laidLooks := .later }
def TraceEachCardSaid : Prop := Claim7.holds Tryd.pinned (.plain (OpenSpec.ofChange traceEachSpec)) traceEachCard

/-- THE TIED CARD OF 'tappetlaw26.TraceOnly'. -/
def traceOnlyCard : Claim7 := { stood := { row := traceOnlyRow, standIns := [], harness := (true, "f258b81b547844cbdd7aace783eccf325617412be4a6de0273e6641365e66a99"), looks := true }, kinds := [], alts := [], laidByText := true, laidKinds := [.data, .data, .data, .data, .sentinel, .sentinel, .data, .pinned], laidTests := true, laidLooks := .later }
def TraceOnlyCardSaid : Prop := Claim7.holds Tryd.pinned (.plain (OpenSpec.ofChange traceOnlySpec)) traceOnlyCard

/-- THE SECOND FORM's CARD OF 'tappetlaw26.TraceParses'. -/
def traceParsesUptoCard : Claim7 := { stood := { row := traceParsesUptoRow, standIns := [], harness := (true, "f258b81b547844cbdd7aace783eccf325617412be4a6de0273e6641365e66a99"), looks := true }, kinds := [], alts := [], laidByText := true, laidKinds := [.data, .data, .data, .data, .sentinel, .sentinel, .data, .pinned], laidTests := true, laidLooks := .later }
def TraceParsesUptoCardSaid : Prop := Claim7.holds Tryd.pinned (.plain (OpenSpec.upto traceParsesSpec)) traceParsesUptoCard

/-- THE SECOND FORM's CARD OF 'tappetlaw26.TraceBack'. -/
def traceBackUptoCard : Claim7 := { stood := { row := traceBackUptoRow, standIns := [], harness := (true, "f258b81b547844cbdd7aace783eccf325617412be4a6de0273e6641365e66a99"), looks := true }, kinds := [], alts := [], laidByText := true, laidKinds := [.data, .data, .data, .data, .sentinel, .sentinel, .data, .pinned], laidTests := true, laidLooks := .later }
def TraceBackUptoCardSaid : Prop := Claim7.holds Tryd.pinned (.plain (OpenSpec.upto traceBackSpec)) traceBackUptoCard

/-- THE SECOND FORM's CARD OF 'tappetlaw26.TracePrints'. -/
def tracePrintsUptoCard : Claim7 := { stood := { row := tracePrintsUptoRow, standIns := [], harness := (true, "f258b81b547844cbdd7aace783eccf325617412be4a6de0273e6641365e66a99"), looks := true }, kinds := [], alts := [], laidByText := true, laidKinds := [.data, .data, .data, .data, .sentinel, .sentinel, .data, .pinned], laidTests := true, laidLooks := .later }
def TracePrintsUptoCardSaid : Prop := Claim7.holds Tryd.pinned (.plain (OpenSpec.upto tracePrintsSpec)) tracePrintsUptoCard

/-- THE SECOND FORM's CARD OF 'tappetlaw26.TraceEach'. -/
def traceEachUptoCard : Claim7 := { stood := { row := traceEachUptoRow, standIns := [], harness := (true, "f258b81b547844cbdd7aace783eccf325617412be4a6de0273e6641365e66a99"), looks := true }, kinds := [], alts := [], laidByText := true, laidKinds := [.data, .data, .data, .data, .sentinel, .sentinel, .data, .pinned], laidTests := true, laidLooks := .later }
def TraceEachUptoCardSaid : Prop := Claim7.holds Tryd.pinned (.plain (OpenSpec.upto traceEachSpec)) traceEachUptoCard

/-- THE SECOND FORM's CARD OF 'tappetlaw26.TraceOnly'. -/
def traceOnlyUptoCard : Claim7 := { stood := { row := traceOnlyUptoRow, standIns := [], harness := (true, "f258b81b547844cbdd7aace783eccf325617412be4a6de0273e6641365e66a99"), looks := true }, kinds := [], alts := [], laidByText := true, laidKinds := [.data, .data, .data, .data, .sentinel, .sentinel, .data, .pinned], laidTests := true, laidLooks := .later }
def TraceOnlyUptoCardSaid : Prop := Claim7.holds Tryd.pinned (.plain (OpenSpec.upto traceOnlySpec)) traceOnlyUptoCard
end Rows
end Go.Proofs.YtalllncanpcmfaaDoor
