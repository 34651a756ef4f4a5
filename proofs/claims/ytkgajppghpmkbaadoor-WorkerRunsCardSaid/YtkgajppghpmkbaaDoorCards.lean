/-
  DERIVED. GIVEN WITH THE SEED: THE CARDS: each row of YtkgajppghpmkbaaDoorRows.lean that lists a variable, with what it lists TIED to the program's text (the seventh form; the later family's looks); each row that meets fmt, with fmt's text TOLD by the authors' own Lean function (tested against real Go, not proved from fmt's source: count such statements apart). THE CARD IS WHAT COUNTS. Prove the row's statement (the work); the ties are given (YtkgajppghpmkbaaDoorTie.lean); close each card by the builder's one call (the guide's Derived/Test/ToyasCard.lean, 'card_holds'). Laid BY PROGRAM, IN A SANDBOX (cutbox-door.mjs). By AI agents, Wed Nov 11 2026. No macro, syntax, notation, axiom, sorry.
-/
import Derived.Test.YtkgajppghpmkbaaDoorRows
import GoSem.ClaimSeven
namespace Go.Proofs.YtkgajppghpmkbaaDoor
namespace Rows

/-- THE TIED CARD OF 'tappetlaw23.WorkerRefuses'. -/
def workerRefusesCard : Claim7 := { stood := { row := workerRefusesRow, standIns := [], harness := (true, "0f3237a25599cb960576ba4e5976896b2eb5af21ee15b8842fdf63b369b9036e"), looks := false }, kinds := [], alts := [], laidByText := true, laidKinds := [.data, .data], laidTests := true, laidLooks := .later }
def WorkerRefusesCardSaid : Prop := Claim7.holds Tryd.pinned (.plain (OpenSpec.ofChange workerRefusesSpec)) workerRefusesCard

/-- THE TIED CARD OF 'tappetlaw23.WorkerRuns'. -/
def workerRunsCard : Claim7 := { stood := { row := workerRunsRow, standIns := [], harness := (true, "0f3237a25599cb960576ba4e5976896b2eb5af21ee15b8842fdf63b369b9036e"), looks := false }, kinds := [], alts := [], laidByText := true, laidKinds := [.data, .data], laidTests := true, laidLooks := .later }
def WorkerRunsCardSaid : Prop := Claim7.holds Tryd.pinned (.plain (OpenSpec.ofChange workerRunsSpec)) workerRunsCard

/-- THE SECOND FORM's CARD OF 'tappetlaw23.WorkerRefuses'. -/
def workerRefusesUptoCard : Claim7 := { stood := { row := workerRefusesUptoRow, standIns := [], harness := (true, "0f3237a25599cb960576ba4e5976896b2eb5af21ee15b8842fdf63b369b9036e"), looks := false }, kinds := [], alts := [], laidByText := true, laidKinds := [.data, .data], laidTests := true, laidLooks := .later }
def WorkerRefusesUptoCardSaid : Prop := Claim7.holds Tryd.pinned (.plain (OpenSpec.upto workerRefusesSpec)) workerRefusesUptoCard

/-- THE SECOND FORM's CARD OF 'tappetlaw23.WorkerRuns'. -/
def workerRunsUptoCard : Claim7 := { stood := { row := workerRunsUptoRow, standIns := [], harness := (true, "0f3237a25599cb960576ba4e5976896b2eb5af21ee15b8842fdf63b369b9036e"), looks := false }, kinds := [], alts := [], laidByText := true, laidKinds := [.data, .data], laidTests := true, laidLooks := .later }
def WorkerRunsUptoCardSaid : Prop := Claim7.holds Tryd.pinned (.plain (OpenSpec.upto workerRunsSpec)) workerRunsUptoCard
end Rows
end Go.Proofs.YtkgajppghpmkbaaDoor
