/-
  DERIVED. GIVEN WITH THE SEED: THE CARDS: each row of YtgmmfjpmahcocaaGreatDoorRows.lean that lists a variable, with what it lists TIED to the program's text (the seventh form; the later family's looks); each row that meets fmt, with fmt's text TOLD by the authors' own Lean function (tested against real Go, not proved from fmt's source: count such statements apart). THE CARD IS WHAT COUNTS. Prove the row's statement (the work); the ties are given (YtgmmfjpmahcocaaGreatDoorTie.lean); close each card by the builder's one call (the guide's Derived/Test/ToyasCard.lean, 'card_holds'). Laid BY PROGRAM, IN A SANDBOX (cutbox-door.mjs). By AI agents, Wed Nov 11 2026. No macro, syntax, notation, axiom, sorry.
-/
import Derived.Test.YtgmmfjpmahcocaaGreatDoorRows
import GoSem.ClaimSeven
namespace Go.Proofs.YtgmmfjpmahcocaaGreatDoor
namespace Rows

/-- THE TIED CARD OF 'tappetlaw11.EngineTraces'. -/
def engineTracesCard : Claim7 := { stood := { row := engineTracesRow, standIns := [], harness := (true, "773b35c36dc92548f8088b430f075884b7b89e7f7b1d691cb9e2d943ef73bb7c"), looks := false }, kinds := [], alts := [], laidByText := true, laidKinds := [.data, .data], laidTests := true, laidLooks := .later }
def EngineTracesCardSaid : Prop := Claim7.holds Tryz.pinned (.plain (OpenSpec.ofChange engineTracesSpec)) engineTracesCard

/-- THE TIED CARD OF 'tappetlaw11.EngineSteps'. -/
def engineStepsCard : Claim7 := { stood := { row := engineStepsRow, standIns := [], harness := (true, "773b35c36dc92548f8088b430f075884b7b89e7f7b1d691cb9e2d943ef73bb7c"), looks := false }, kinds := [], alts := [], laidByText := true, laidKinds := [.data, .data], laidTests := true, laidLooks := .later }
def EngineStepsCardSaid : Prop := Claim7.holds Tryz.pinned (.plain (OpenSpec.ofChange engineStepsSpec)) engineStepsCard

/-- THE TIED CARD OF 'tappetlaw11.EngineEnds'. -/
def engineEndsCard : Claim7 := { stood := { row := engineEndsRow, standIns := [], harness := (true, "773b35c36dc92548f8088b430f075884b7b89e7f7b1d691cb9e2d943ef73bb7c"), looks := false }, kinds := [], alts := [], laidByText := true, laidKinds := [.data, .data], laidTests := true, laidLooks := .later }
def EngineEndsCardSaid : Prop := Claim7.holds Tryz.pinned (.plain (OpenSpec.ofChange engineEndsSpec)) engineEndsCard

/-- THE SECOND FORM's CARD OF 'tappetlaw11.EngineTraces'. -/
def engineTracesUptoCard : Claim7 := { stood := { row := engineTracesUptoRow, standIns := [], harness := (true, "773b35c36dc92548f8088b430f075884b7b89e7f7b1d691cb9e2d943ef73bb7c"), looks := false }, kinds := [], alts := [], laidByText := true, laidKinds := [.data, .data], laidTests := true, laidLooks := .later }
def EngineTracesUptoCardSaid : Prop := Claim7.holds Tryz.pinned (.plain (OpenSpec.upto engineTracesSpec)) engineTracesUptoCard

/-- THE SECOND FORM's CARD OF 'tappetlaw11.EngineSteps'. -/
def engineStepsUptoCard : Claim7 := { stood := { row := engineStepsUptoRow, standIns := [], harness := (true, "773b35c36dc92548f8088b430f075884b7b89e7f7b1d691cb9e2d943ef73bb7c"), looks := false }, kinds := [], alts := [], laidByText := true, laidKinds := [.data, .data], laidTests := true, laidLooks := .later }
def EngineStepsUptoCardSaid : Prop := Claim7.holds Tryz.pinned (.plain (OpenSpec.upto engineStepsSpec)) engineStepsUptoCard

/-- THE SECOND FORM's CARD OF 'tappetlaw11.EngineEnds'. -/
def engineEndsUptoCard : Claim7 := { stood := { row := engineEndsUptoRow, standIns := [], harness := (true, "773b35c36dc92548f8088b430f075884b7b89e7f7b1d691cb9e2d943ef73bb7c"), looks := false }, kinds := [], alts := [], laidByText := true, laidKinds := [.data, .data], laidTests := true, laidLooks := .later }
def EngineEndsUptoCardSaid : Prop := Claim7.holds Tryz.pinned (.plain (OpenSpec.upto engineEndsSpec)) engineEndsUptoCard
end Rows
end Go.Proofs.YtgmmfjpmahcocaaGreatDoor
