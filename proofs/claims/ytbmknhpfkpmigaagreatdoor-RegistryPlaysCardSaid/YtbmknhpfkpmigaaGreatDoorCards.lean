/-
  DERIVED. GIVEN WITH THE SEED: THE CARDS: each row of YtbmknhpfkpmigaaGreatDoorRows.lean that lists a variable, with what it lists TIED to the program's text (the seventh form; the later family's looks); each row that meets fmt, with fmt's text TOLD by the authors' own Lean function (tested against real Go, not proved from fmt's source: count such statements apart). THE CARD IS WHAT COUNTS. Prove the row's statement (the work); the ties are given (YtbmknhpfkpmigaaGreatDoorTie.lean); close each card by the builder's one call (the guide's Derived/Test/ToyasCard.lean, 'card_holds'). Laid BY PROGRAM, IN A SANDBOX (cutbox-door.mjs). By AI agents, Wed Nov 11 2026. No macro, syntax, notation, axiom, sorry.
-/
import Derived.Test.YtbmknhpfkpmigaaGreatDoorRows
import GoSem.ClaimSeven
namespace Go.Proofs.YtbmknhpfkpmigaaGreatDoor
namespace Rows

/-- THE TIED CARD OF 'tappetlaw23.WorkerPlays'. -/
def workerPlaysCard : Claim7 := { stood := { row := workerPlaysRow, standIns := [], harness := (true, "ed6a32be73b408929060cb1e54add39ecf82ef418132df72e86e2ef5edea757e"), looks := false }, kinds := [], alts := [], laidByText := true, laidKinds := [.data, .data], laidTests := true, laidLooks := .later }
def WorkerPlaysCardSaid : Prop := Claim7.holds Tryz.pinned (.plain (OpenSpec.ofChange workerPlaysSpec)) workerPlaysCard

/-- THE TIED CARD OF 'tappetlaw23.WorkerApart'. -/
def workerApartCard : Claim7 := { stood := { row := workerApartRow, standIns := [], harness := (true, "ed6a32be73b408929060cb1e54add39ecf82ef418132df72e86e2ef5edea757e"), looks := false }, kinds := [], alts := [], laidByText := true, laidKinds := [.data, .data], laidTests := true, laidLooks := .later }
def WorkerApartCardSaid : Prop := Claim7.holds Tryz.pinned (.plain (OpenSpec.ofChange workerApartSpec)) workerApartCard

/-- THE TIED CARD OF 'tappetlaw24.RegistryPlays'. -/
def registryPlaysCard : Claim7 := { stood := { row := registryPlaysRow, standIns := [], harness := (true, "ed6a32be73b408929060cb1e54add39ecf82ef418132df72e86e2ef5edea757e"), looks := false }, kinds := [], alts := [], laidByText := true, laidKinds := [.data, .data], laidTests := true, laidLooks := .later }
def RegistryPlaysCardSaid : Prop := Claim7.holds Tryz.pinned (.plain (OpenSpec.ofChange registryPlaysSpec)) registryPlaysCard

/-- THE SECOND FORM's CARD OF 'tappetlaw23.WorkerPlays'. -/
def workerPlaysUptoCard : Claim7 := { stood := { row := workerPlaysUptoRow, standIns := [], harness := (true, "ed6a32be73b408929060cb1e54add39ecf82ef418132df72e86e2ef5edea757e"), looks := false }, kinds := [], alts := [], laidByText := true, laidKinds := [.data, .data], laidTests := true, laidLooks := .later }
def WorkerPlaysUptoCardSaid : Prop := Claim7.holds Tryz.pinned (.plain (OpenSpec.upto workerPlaysSpec)) workerPlaysUptoCard

/-- THE SECOND FORM's CARD OF 'tappetlaw23.WorkerApart'. -/
def workerApartUptoCard : Claim7 := { stood := { row := workerApartUptoRow, standIns := [], harness := (true, "ed6a32be73b408929060cb1e54add39ecf82ef418132df72e86e2ef5edea757e"), looks := false }, kinds := [], alts := [], laidByText := true, laidKinds := [.data, .data], laidTests := true, laidLooks := .later }
def WorkerApartUptoCardSaid : Prop := Claim7.holds Tryz.pinned (.plain (OpenSpec.upto workerApartSpec)) workerApartUptoCard

/-- THE SECOND FORM's CARD OF 'tappetlaw24.RegistryPlays'. -/
def registryPlaysUptoCard : Claim7 := { stood := { row := registryPlaysUptoRow, standIns := [], harness := (true, "ed6a32be73b408929060cb1e54add39ecf82ef418132df72e86e2ef5edea757e"), looks := false }, kinds := [], alts := [], laidByText := true, laidKinds := [.data, .data], laidTests := true, laidLooks := .later }
def RegistryPlaysUptoCardSaid : Prop := Claim7.holds Tryz.pinned (.plain (OpenSpec.upto registryPlaysSpec)) registryPlaysUptoCard
end Rows
end Go.Proofs.YtbmknhpfkpmigaaGreatDoor
