/-
  DERIVED. GIVEN WITH THE SEED: THE CARDS: each row of YtgmmfjpmahcocaaDoorRows.lean that lists a variable, with what it lists TIED to the program's text (the seventh form; the later family's looks); each row that meets fmt, with fmt's text TOLD by the authors' own Lean function (tested against real Go, not proved from fmt's source: count such statements apart). THE CARD IS WHAT COUNTS. Prove the row's statement (the work); the ties are given (YtgmmfjpmahcocaaDoorTie.lean); close each card by the builder's one call (the guide's Derived/Test/ToyasCard.lean, 'card_holds'). Laid BY PROGRAM, IN A SANDBOX (cutbox-door.mjs). By AI agents, Wed Nov 11 2026. No macro, syntax, notation, axiom, sorry.
-/
import Derived.Test.YtgmmfjpmahcocaaDoorRows
import GoSem.ClaimSeven
namespace Go.Proofs.YtgmmfjpmahcocaaDoor
namespace Rows

/-- THE TIED CARD OF 'tappetlaw11.EngineApart'. -/
def engineApartCard : Claim7 := { stood := { row := engineApartRow, standIns := [], harness := (true, "4d8ce23e68b31843c539fe1f798cadf9f3408545b293b34f04d9f14c2697be05"), looks := false }, kinds := [], alts := [], laidByText := true, laidKinds := [.data, .data], laidTests := true, laidLooks := .later }
def EngineApartCardSaid : Prop := Claim7.holds Tryd.pinned (.plain (OpenSpec.ofChange engineApartSpec)) engineApartCard

/-- THE TIED CARD OF 'tappetlaw11.EngineSafe'. -/
def engineSafeCard : Claim7 := { stood := { row := engineSafeRow, standIns := [], harness := (true, "4d8ce23e68b31843c539fe1f798cadf9f3408545b293b34f04d9f14c2697be05"), looks := false }, kinds := [], alts := [], laidByText := true, laidKinds := [.data, .data], laidTests := true, laidLooks := .later }
def EngineSafeCardSaid : Prop := Claim7.holds Tryd.pinned (.plain (OpenSpec.ofChange engineSafeSpec)) engineSafeCard

/-- THE SECOND FORM's CARD OF 'tappetlaw11.EngineApart'. -/
def engineApartUptoCard : Claim7 := { stood := { row := engineApartUptoRow, standIns := [], harness := (true, "4d8ce23e68b31843c539fe1f798cadf9f3408545b293b34f04d9f14c2697be05"), looks := false }, kinds := [], alts := [], laidByText := true, laidKinds := [.data, .data], laidTests := true, laidLooks := .later }
def EngineApartUptoCardSaid : Prop := Claim7.holds Tryd.pinned (.plain (OpenSpec.upto engineApartSpec)) engineApartUptoCard

/-- THE SECOND FORM's CARD OF 'tappetlaw11.EngineSafe'. -/
def engineSafeUptoCard : Claim7 := { stood := { row := engineSafeUptoRow, standIns := [], harness := (true, "4d8ce23e68b31843c539fe1f798cadf9f3408545b293b34f04d9f14c2697be05"), looks := false }, kinds := [], alts := [], laidByText := true, laidKinds := [.data, .data], laidTests := true, laidLooks := .later }
def EngineSafeUptoCardSaid : Prop := Claim7.holds Tryd.pinned (.plain (OpenSpec.upto engineSafeSpec)) engineSafeUptoCard
end Rows
end Go.Proofs.YtgmmfjpmahcocaaDoor
