/-
  DERIVED. GIVEN WITH THE SEED: THE CARDS: each row of YtjhmkpklhajpcaaDoorRows.lean that lists a variable, with what it lists TIED to the program's text (the seventh form; the later family's looks); each row that meets fmt, with fmt's text TOLD by the authors' own Lean function (tested against real Go, not proved from fmt's source: count such statements apart). THE CARD IS WHAT COUNTS. Prove the row's statement (the work); the ties are given (YtjhmkpklhajpcaaDoorTie.lean); close each card by the builder's one call (the guide's Derived/Test/ToyasCard.lean, 'card_holds'). Laid BY PROGRAM, IN A SANDBOX (cutbox-door.mjs). By AI agents, Wed Nov 11 2026. No macro, syntax, notation, axiom, sorry.
-/
import Derived.Test.YtjhmkpklhajpcaaDoorRows
import GoSem.ClaimSeven
namespace Go.Proofs.YtjhmkpklhajpcaaDoor
namespace Rows

/-- THE TIED CARD OF 'tappetlaw07.FlowChecks'. -/
def flowChecksCard : Claim7 := { stood := { row := flowChecksRow, standIns := [], harness := (true, "04747b5c79b81f5babd7edde11f941d76c4d91550a39267c41539c4d6c6d8392"), looks := false }, kinds := [], alts := [], laidByText := true, laidKinds := [.data], laidTests := true, laidLooks := .later }
def FlowChecksCardSaid : Prop := Claim7.holds Tryd.pinned (.plain (OpenSpec.ofChange flowChecksSpec)) flowChecksCard

/-- THE TIED CARD OF 'tappetlaw07.FlowLoops'. -/
def flowLoopsCard : Claim7 := { stood := { row := flowLoopsRow, standIns := [], harness := (true, "04747b5c79b81f5babd7edde11f941d76c4d91550a39267c41539c4d6c6d8392"), looks := false }, kinds := [], alts := [], laidByText := true, laidKinds := [.data], laidTests := true, laidLooks := .later }
def FlowLoopsCardSaid : Prop := Claim7.holds Tryd.pinned (.plain (OpenSpec.ofChange flowLoopsSpec)) flowLoopsCard

/-- THE TIED CARD OF 'tappetlaw07.FlowNested'. -/
def flowNestedCard : Claim7 := { stood := { row := flowNestedRow, standIns := [], harness := (true, "04747b5c79b81f5babd7edde11f941d76c4d91550a39267c41539c4d6c6d8392"), looks := false }, kinds := [], alts := [], laidByText := true, laidKinds := [.data], laidTests := true, laidLooks := .later }
def FlowNestedCardSaid : Prop := Claim7.holds Tryd.pinned (.plain (OpenSpec.ofChange flowNestedSpec)) flowNestedCard

/-- THE TIED CARD OF 'tappetlaw07.FlowEnds'. -/
def flowEndsCard : Claim7 := { stood := { row := flowEndsRow, standIns := [], harness := (true, "04747b5c79b81f5babd7edde11f941d76c4d91550a39267c41539c4d6c6d8392"), looks := false }, kinds := [], alts := [], laidByText := true, laidKinds := [.data], laidTests := true, laidLooks := .later }
def FlowEndsCardSaid : Prop := Claim7.holds Tryd.pinned (.plain (OpenSpec.ofChange flowEndsSpec)) flowEndsCard

/-- THE TIED CARD OF 'tappetlaw07.FlowNexts'. -/
def flowNextsCard : Claim7 := { stood := { row := flowNextsRow, standIns := [], harness := (true, "04747b5c79b81f5babd7edde11f941d76c4d91550a39267c41539c4d6c6d8392"), looks := false }, kinds := [], alts := [], laidByText := true, laidKinds := [.data], laidTests := true, laidLooks := .later }
def FlowNextsCardSaid : Prop := Claim7.holds Tryd.pinned (.plain (OpenSpec.ofChange flowNextsSpec)) flowNextsCard

/-- THE SECOND FORM's CARD OF 'tappetlaw07.FlowChecks'. -/
def flowChecksUptoCard : Claim7 := { stood := { row := flowChecksUptoRow, standIns := [], harness := (true, "04747b5c79b81f5babd7edde11f941d76c4d91550a39267c41539c4d6c6d8392"), looks := false }, kinds := [], alts := [], laidByText := true, laidKinds := [.data], laidTests := true, laidLooks := .later }
def FlowChecksUptoCardSaid : Prop := Claim7.holds Tryd.pinned (.plain (OpenSpec.upto flowChecksSpec)) flowChecksUptoCard

/-- THE SECOND FORM's CARD OF 'tappetlaw07.FlowLoops'. -/
def flowLoopsUptoCard : Claim7 := { stood := { row := flowLoopsUptoRow, standIns := [], harness := (true, "04747b5c79b81f5babd7edde11f941d76c4d91550a39267c41539c4d6c6d8392"), looks := false }, kinds := [], alts := [], laidByText := true, laidKinds := [.data], laidTests := true, laidLooks := .later }
def FlowLoopsUptoCardSaid : Prop := Claim7.holds Tryd.pinned (.plain (OpenSpec.upto flowLoopsSpec)) flowLoopsUptoCard

/-- THE SECOND FORM's CARD OF 'tappetlaw07.FlowNested'. -/
def flowNestedUptoCard : Claim7 := { stood := { row := flowNestedUptoRow, standIns := [], harness := (true, "04747b5c79b81f5babd7edde11f941d76c4d91550a39267c41539c4d6c6d8392"), looks := false }, kinds := [], alts := [], laidByText := true, laidKinds := [.data], laidTests := true, laidLooks := .later }
def FlowNestedUptoCardSaid : Prop := Claim7.holds Tryd.pinned (.plain (OpenSpec.upto flowNestedSpec)) flowNestedUptoCard

/-- THE SECOND FORM's CARD OF 'tappetlaw07.FlowEnds'. -/
def flowEndsUptoCard : Claim7 := { stood := { row := flowEndsUptoRow, standIns := [], harness := (true, "04747b5c79b81f5babd7edde11f941d76c4d91550a39267c41539c4d6c6d8392"), looks := false }, kinds := [], alts := [], laidByText := true, laidKinds := [.data], laidTests := true, laidLooks := .later }
def FlowEndsUptoCardSaid : Prop := Claim7.holds Tryd.pinned (.plain (OpenSpec.upto flowEndsSpec)) flowEndsUptoCard

/-- THE SECOND FORM's CARD OF 'tappetlaw07.FlowNexts'. -/
def flowNextsUptoCard : Claim7 := { stood := { row := flowNextsUptoRow, standIns := [], harness := (true, "04747b5c79b81f5babd7edde11f941d76c4d91550a39267c41539c4d6c6d8392"), looks := false }, kinds := [], alts := [], laidByText := true, laidKinds := [.data], laidTests := true, laidLooks := .later }
def FlowNextsUptoCardSaid : Prop := Claim7.holds Tryd.pinned (.plain (OpenSpec.upto flowNextsSpec)) flowNextsUptoCard
end Rows
end Go.Proofs.YtjhmkpklhajpcaaDoor
