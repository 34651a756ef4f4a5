/-
  DERIVED. GIVEN WITH THE SEED: THE CARDS: each row of YtplmgfkghomelaaGreatDoorRows.lean that lists a variable, with what it lists TIED to the program's text (the seventh form; the later family's looks); each row that meets fmt, with fmt's text TOLD by the authors' own Lean function (tested against real Go, not proved from fmt's source: count such statements apart). THE CARD IS WHAT COUNTS. Prove the row's statement (the work); the ties are given (YtplmgfkghomelaaGreatDoorTie.lean); close each card by the builder's one call (the guide's Derived/Test/ToyasCard.lean, 'card_holds'). Laid BY PROGRAM, IN A SANDBOX (cutbox-door.mjs). By AI agents, Wed Nov 11 2026. No macro, syntax, notation, axiom, sorry.
-/
import Derived.Test.YtplmgfkghomelaaGreatDoorRows
import GoSem.ClaimSeven
namespace Go.Proofs.YtplmgfkghomelaaGreatDoor
namespace Rows

/-- THE TIED CARD OF 'tappetlaw25.HostGrows'. -/
def hostGrowsCard : Claim7 := { stood := { row := hostGrowsRow, standIns := [], harness := (true, "ab8bd5f6a2dcd507654982fa836e1f0fe357b13b231250e197746d0f39355637"), looks := false }, kinds := [], alts := [], laidByText := true, laidKinds := [.data, .data], laidTests := true, laidLooks := .later }
def HostGrowsCardSaid : Prop := Claim7.holds Tryz.pinned (.plain (OpenSpec.ofChange hostGrowsSpec)) hostGrowsCard

/-- THE TIED CARD OF 'tappetlaw25.HostTurns'. -/
def hostTurnsCard : Claim7 := { stood := { row := hostTurnsRow, standIns := [], harness := (true, "ab8bd5f6a2dcd507654982fa836e1f0fe357b13b231250e197746d0f39355637"), looks := false }, kinds := [], alts := [], laidByText := true, laidKinds := [.data, .data], laidTests := true, laidLooks := .later }
def HostTurnsCardSaid : Prop := Claim7.holds Tryz.pinned (.plain (OpenSpec.ofChange hostTurnsSpec)) hostTurnsCard

/-- THE TIED CARD OF 'tappettop.WholeLinear'. -/
def wholeLinearCard : Claim7 := { stood := { row := wholeLinearRow, standIns := [], harness := (true, "ab8bd5f6a2dcd507654982fa836e1f0fe357b13b231250e197746d0f39355637"), looks := false }, kinds := [], alts := [], laidByText := true, laidKinds := [.data, .data], laidTests := true, laidLooks := .later }
def WholeLinearCardSaid : Prop := Claim7.holds Tryz.pinned (.plain (OpenSpec.ofChange wholeLinearSpec)) wholeLinearCard

/-- THE TIED CARD OF 'tappettop.WholeFull'. -/
def wholeFullCard : Claim7 := { stood := { row := wholeFullRow, standIns := [], harness := (true, "ab8bd5f6a2dcd507654982fa836e1f0fe357b13b231250e197746d0f39355637"), looks := false }, kinds := [], alts := [], laidByText := true, laidKinds := [.data, .data], laidTests := true, laidLooks := .later }
def WholeFullCardSaid : Prop := Claim7.holds Tryz.pinned (.plain (OpenSpec.ofChange wholeFullSpec)) wholeFullCard

/-- THE TIED CARD OF 'tappettop.WholeEnds'. -/
def wholeEndsCard : Claim7 := { stood := { row := wholeEndsRow, standIns := [], harness := (true, "ab8bd5f6a2dcd507654982fa836e1f0fe357b13b231250e197746d0f39355637"), looks := false }, kinds := [], alts := [], laidByText := true, laidKinds := [.data, .data], laidTests := true, laidLooks := .later }
def WholeEndsCardSaid : Prop := Claim7.holds Tryz.pinned (.plain (OpenSpec.ofChange wholeEndsSpec)) wholeEndsCard

/-- THE TIED CARD OF 'tappettop.WholeCounts'. -/
def wholeCountsCard : Claim7 := { stood := { row := wholeCountsRow, standIns := [], harness := (true, "ab8bd5f6a2dcd507654982fa836e1f0fe357b13b231250e197746d0f39355637"), looks := false }, kinds := [], alts := [], laidByText := true, laidKinds := [.data, .data], laidTests := true, laidLooks := .later }
def WholeCountsCardSaid : Prop := Claim7.holds Tryz.pinned (.plain (OpenSpec.ofChange wholeCountsSpec)) wholeCountsCard

/-- THE TIED CARD OF 'tappettop.WholeRefs'. -/
def wholeRefsCard : Claim7 := { stood := { row := wholeRefsRow, standIns := [], harness := (true, "ab8bd5f6a2dcd507654982fa836e1f0fe357b13b231250e197746d0f39355637"), looks := false }, kinds := [], alts := [], laidByText := true, laidKinds := [.data, .data], laidTests := true, laidLooks := .later }
def WholeRefsCardSaid : Prop := Claim7.holds Tryz.pinned (.plain (OpenSpec.ofChange wholeRefsSpec)) wholeRefsCard

/-- THE SECOND FORM's CARD OF 'tappetlaw25.HostGrows'. -/
def hostGrowsUptoCard : Claim7 := { stood := { row := hostGrowsUptoRow, standIns := [], harness := (true, "ab8bd5f6a2dcd507654982fa836e1f0fe357b13b231250e197746d0f39355637"), looks := false }, kinds := [], alts := [], laidByText := true, laidKinds := [.data, .data], laidTests := true, laidLooks := .later }
def HostGrowsUptoCardSaid : Prop := Claim7.holds Tryz.pinned (.plain (OpenSpec.upto hostGrowsSpec)) hostGrowsUptoCard

/-- THE SECOND FORM's CARD OF 'tappetlaw25.HostTurns'. -/
def hostTurnsUptoCard : Claim7 := { stood := { row := hostTurnsUptoRow, standIns := [], harness := (true, "ab8bd5f6a2dcd507654982fa836e1f0fe357b13b231250e197746d0f39355637"), looks := false }, kinds := [], alts := [], laidByText := true, laidKinds := [.data, .data], laidTests := true, laidLooks := .later }
def HostTurnsUptoCardSaid : Prop := Claim7.holds Tryz.pinned (.plain (OpenSpec.upto hostTurnsSpec)) hostTurnsUptoCard

/-- THE SECOND FORM's CARD OF 'tappettop.WholeLinear'. -/
def wholeLinearUptoCard : Claim7 := { stood := { row := wholeLinearUptoRow, standIns := [], harness := (true, "ab8bd5f6a2dcd507654982fa836e1f0fe357b13b231250e197746d0f39355637"), looks := false }, kinds := [], alts := [], laidByText := true, laidKinds := [.data, .data], laidTests := true, laidLooks := .later }
def WholeLinearUptoCardSaid : Prop := Claim7.holds Tryz.pinned (.plain (OpenSpec.upto wholeLinearSpec)) wholeLinearUptoCard

/-- THE SECOND FORM's CARD OF 'tappettop.WholeFull'. -/
def wholeFullUptoCard : Claim7 := { stood := { row := wholeFullUptoRow, standIns := [], harness := (true, "ab8bd5f6a2dcd507654982fa836e1f0fe357b13b231250e197746d0f39355637"), looks := false }, kinds := [], alts := [], laidByText := true, laidKinds := [.data, .data], laidTests := true, laidLooks := .later }
def WholeFullUptoCardSaid : Prop := Claim7.holds Tryz.pinned (.plain (OpenSpec.upto wholeFullSpec)) wholeFullUptoCard

/-- THE SECOND FORM's CARD OF 'tappettop.WholeEnds'. -/
def wholeEndsUptoCard : Claim7 := { stood := { row := wholeEndsUptoRow, standIns := [], harness := (true, "ab8bd5f6a2dcd507654982fa836e1f0fe357b13b231250e197746d0f39355637"), looks := false }, kinds := [], alts := [], laidByText := true, laidKinds := [.data, .data], laidTests := true, laidLooks := .later }
def WholeEndsUptoCardSaid : Prop := Claim7.holds Tryz.pinned (.plain (OpenSpec.upto wholeEndsSpec)) wholeEndsUptoCard

/-- THE SECOND FORM's CARD OF 'tappettop.WholeCounts'. -/
def wholeCountsUptoCard : Claim7 := { stood := { row := wholeCountsUptoRow, standIns := [], harness := (true, "ab8bd5f6a2dcd507654982fa836e1f0fe357b13b231250e197746d0f39355637"), looks := false }, kinds := [], alts := [], laidByText := true, laidKinds := [.data, .data], laidTests := true, laidLooks := .later }
def WholeCountsUptoCardSaid : Prop := Claim7.holds Tryz.pinned (.plain (OpenSpec.upto wholeCountsSpec)) wholeCountsUptoCard

/-- THE SECOND FORM's CARD OF 'tappettop.WholeRefs'. -/
def wholeRefsUptoCard : Claim7 := { stood := { row := wholeRefsUptoRow, standIns := [], harness := (true, "ab8bd5f6a2dcd507654982fa836e1f0fe357b13b231250e197746d0f39355637"), looks := false }, kinds := [], alts := [], laidByText := true, laidKinds := [.data, .data], laidTests := true, laidLooks := .later }
def WholeRefsUptoCardSaid : Prop := Claim7.holds Tryz.pinned (.plain (OpenSpec.upto wholeRefsSpec)) wholeRefsUptoCard
end Rows
end Go.Proofs.YtplmgfkghomelaaGreatDoor
