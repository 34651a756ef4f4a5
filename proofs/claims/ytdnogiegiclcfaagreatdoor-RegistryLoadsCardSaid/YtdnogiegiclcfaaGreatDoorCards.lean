/-
  DERIVED. GIVEN WITH THE SEED: THE CARDS: each row of YtdnogiegiclcfaaGreatDoorRows.lean that lists a variable, with what it lists TIED to the program's text (the seventh form; the later family's looks); each row that meets fmt, with fmt's text TOLD by the authors' own Lean function (tested against real Go, not proved from fmt's source: count such statements apart). THE CARD IS WHAT COUNTS. Prove the row's statement (the work); the ties are given (YtdnogiegiclcfaaGreatDoorTie.lean); close each card by the builder's one call (the guide's Derived/Test/ToyasCard.lean, 'card_holds'). Laid BY PROGRAM, IN A SANDBOX (cutbox-door.mjs). By AI agents, Wed Nov 11 2026. No macro, syntax, notation, axiom, sorry.
-/
import Derived.Test.YtdnogiegiclcfaaGreatDoorRows
import GoSem.ClaimSeven
namespace Go.Proofs.YtdnogiegiclcfaaGreatDoor
namespace Rows

/-- THE TIED CARD OF 'tappetlaw24.RegistryLoads'. -/
def registryLoadsCard : Claim7 := { stood := { row := registryLoadsRow, standIns := [], harness := (true, "fd0f2be6f10d8a587297e32dc1527791ff0ce08fefcb988691d91a2b5dbf3994"), looks := false }, kinds := [], alts := [], laidByText := true, laidKinds := [.data, .data], laidTests := true, laidLooks := .later }
def RegistryLoadsCardSaid : Prop := Claim7.holds Tryz.pinned (.plain (OpenSpec.ofChange registryLoadsSpec)) registryLoadsCard

/-- THE TIED CARD OF 'tappetlaw24.RegistryGrace'. -/
def registryGraceCard : Claim7 := { stood := { row := registryGraceRow, standIns := [], harness := (true, "fd0f2be6f10d8a587297e32dc1527791ff0ce08fefcb988691d91a2b5dbf3994"), looks := false }, kinds := [], alts := [], laidByText := true, laidKinds := [.data, .data], laidTests := true, laidLooks := .later }
def RegistryGraceCardSaid : Prop := Claim7.holds Tryz.pinned (.plain (OpenSpec.ofChange registryGraceSpec)) registryGraceCard

/-- THE TIED CARD OF 'tappetlaw24.RegistryNumbers'. -/
def registryNumbersCard : Claim7 := { stood := { row := registryNumbersRow, standIns := [], harness := (true, "fd0f2be6f10d8a587297e32dc1527791ff0ce08fefcb988691d91a2b5dbf3994"), looks := false }, kinds := [], alts := [], laidByText := true, laidKinds := [.data, .data], laidTests := true, laidLooks := .later }
def RegistryNumbersCardSaid : Prop := Claim7.holds Tryz.pinned (.plain (OpenSpec.ofChange registryNumbersSpec)) registryNumbersCard

/-- THE TIED CARD OF 'tappetlaw24.RegistryRefs'. -/
def registryRefsCard : Claim7 := { stood := { row := registryRefsRow, standIns := [], harness := (true, "fd0f2be6f10d8a587297e32dc1527791ff0ce08fefcb988691d91a2b5dbf3994"), looks := false }, kinds := [], alts := [], laidByText := true, laidKinds := [.data, .data], laidTests := true, laidLooks := .later }
def RegistryRefsCardSaid : Prop := Claim7.holds Tryz.pinned (.plain (OpenSpec.ofChange registryRefsSpec)) registryRefsCard

/-- THE TIED CARD OF 'tappetlaw24.RegistryPlays'. -/
def registryPlaysCard : Claim7 := { stood := { row := registryPlaysRow, standIns := [], harness := (true, "fd0f2be6f10d8a587297e32dc1527791ff0ce08fefcb988691d91a2b5dbf3994"), looks := false }, kinds := [], alts := [], laidByText := true, laidKinds := [.data, .data], laidTests := true, laidLooks := .later }
def RegistryPlaysCardSaid : Prop := Claim7.holds Tryz.pinned (.plain (OpenSpec.ofChange registryPlaysSpec)) registryPlaysCard

/-- THE SECOND FORM's CARD OF 'tappetlaw24.RegistryLoads'. -/
def registryLoadsUptoCard : Claim7 := { stood := { row := registryLoadsUptoRow, standIns := [], harness := (true, "fd0f2be6f10d8a587297e32dc1527791ff0ce08fefcb988691d91a2b5dbf3994"), looks := false }, kinds := [], alts := [], laidByText := true, laidKinds := [.data, .data], laidTests := true, laidLooks := .later }
def RegistryLoadsUptoCardSaid : Prop := Claim7.holds Tryz.pinned (.plain (OpenSpec.upto registryLoadsSpec)) registryLoadsUptoCard

/-- THE SECOND FORM's CARD OF 'tappetlaw24.RegistryGrace'. -/
def registryGraceUptoCard : Claim7 := { stood := { row := registryGraceUptoRow, standIns := [], harness := (true, "fd0f2be6f10d8a587297e32dc1527791ff0ce08fefcb988691d91a2b5dbf3994"), looks := false }, kinds := [], alts := [], laidByText := true, laidKinds := [.data, .data], laidTests := true, laidLooks := .later }
def RegistryGraceUptoCardSaid : Prop := Claim7.holds Tryz.pinned (.plain (OpenSpec.upto registryGraceSpec)) registryGraceUptoCard

/-- THE SECOND FORM's CARD OF 'tappetlaw24.RegistryNumbers'. -/
def registryNumbersUptoCard : Claim7 := { stood := { row := registryNumbersUptoRow, standIns := [], harness := (true, "fd0f2be6f10d8a587297e32dc1527791ff0ce08fefcb988691d91a2b5dbf3994"), looks := false }, kinds := [], alts := [], laidByText := true, laidKinds := [.data, .data], laidTests := true, laidLooks := .later }
def RegistryNumbersUptoCardSaid : Prop := Claim7.holds Tryz.pinned (.plain (OpenSpec.upto registryNumbersSpec)) registryNumbersUptoCard

/-- THE SECOND FORM's CARD OF 'tappetlaw24.RegistryRefs'. -/
def registryRefsUptoCard : Claim7 := { stood := { row := registryRefsUptoRow, standIns := [], harness := (true, "fd0f2be6f10d8a587297e32dc1527791ff0ce08fefcb988691d91a2b5dbf3994"), looks := false }, kinds := [], alts := [], laidByText := true, laidKinds := [.data, .data], laidTests := true, laidLooks := .later }
def RegistryRefsUptoCardSaid : Prop := Claim7.holds Tryz.pinned (.plain (OpenSpec.upto registryRefsSpec)) registryRefsUptoCard

/-- THE SECOND FORM's CARD OF 'tappetlaw24.RegistryPlays'. -/
def registryPlaysUptoCard : Claim7 := { stood := { row := registryPlaysUptoRow, standIns := [], harness := (true, "fd0f2be6f10d8a587297e32dc1527791ff0ce08fefcb988691d91a2b5dbf3994"), looks := false }, kinds := [], alts := [], laidByText := true, laidKinds := [.data, .data], laidTests := true, laidLooks := .later }
def RegistryPlaysUptoCardSaid : Prop := Claim7.holds Tryz.pinned (.plain (OpenSpec.upto registryPlaysSpec)) registryPlaysUptoCard
end Rows
end Go.Proofs.YtdnogiegiclcfaaGreatDoor
