/-
  NARROWER THAN 'FOR EVERY INPUT', by the rows' own cells (each row's printed sentence says how): HostGrows: laid · HostTurns: laid · WholeLinear: laid · WholeFull: laid · WholeEnds: laid · WholeCounts: laid · WholeRefs: laid.
  DERIVED. THE GIVEN ROWS OF THIS SEAT. 7 by the template 'for every input the law returns true; each argument reads behind the call as it read before'; 0 by the template 'total and deterministic' (their statements: YtplmgfkghomelaaGreatDoorTotals.lean).
  GIVEN WITH THE SEED: the statements are not yours to turn. If you find one false, say at which input.
  Laid BY PROGRAM, IN A SANDBOX (cutbox-rows.mjs): the forced cells as the released guide's own fill.sh prints them over the translation 6fb945813fdcb248… (all of the seat's roots in one cut). By AI agents, Wed Nov 11 2026. No macro, syntax, notation, axiom, sorry.
-/
import Derived.Test.YtplmgfkghomelaaGreatDoorChecked
import GoSem.Claim
import GoSem.ClaimJoined
import GoSem.ClaimMapViews
import Derived.JoinedTies
import Derived.KernelRfl
namespace Go.Proofs.YtplmgfkghomelaaGreatDoor
/- THE CELL 'sum', in the pinned program and in every row, IS THE sha256 OF THE DUMP (.gsa) THAT YtplmgfkghomelaaGreatDoorProg.lean LOADS. Nothing in Lean hashes anything: it is a label: what it is worth is what the hold of that sum in a sandbox is worth. -/
noncomputable def Tryz.pinned : Pinned := { name := "ytplmgfkghomelaagreatdoor", sum := "6fb945813fdcb248b13c8cfc6ab48abfdda99d6610ba8251ba25bf9e4b1b3d59", checked := Tryz.checked }
namespace Rows
def none {H : Type} : Left H := { results := [], args := [] }

/- WHAT THE LISTED PACKAGE-LEVEL VARIABLES READ AS WHEN THE CALL BEGINS. Each datum BY PROGRAM (the guide's laid-datum.mjs) off the statement by which the dump's own 'gosem.cut.vars' lays the variable. In a bare row this is a premise. The card (YtplmgfkghomelaaGreatDoorCards.lean) ties it to the program's text. -/
def laid_tappet_ops_forms {H : Type} : DataW H := .agg [.agg [.lit (.string [115, 101, 116]), .lit (.string [100, 115])], .agg [.lit (.string [97, 100, 100]), .lit (.string [100, 97, 115])], .agg [.lit (.string [115, 117, 98]), .lit (.string [100, 97, 115])], .agg [.lit (.string [109, 117, 108]), .lit (.string [100, 97, 115])], .agg [.lit (.string [100, 105, 118]), .lit (.string [100, 97, 115])], .agg [.lit (.string [114, 101, 109]), .lit (.string [100, 97, 115])], .agg [.lit (.string [97, 110, 100]), .lit (.string [100, 97, 115])], .agg [.lit (.string [111, 114]), .lit (.string [100, 97, 115])], .agg [.lit (.string [120, 111, 114]), .lit (.string [100, 97, 115])], .agg [.lit (.string [115, 104, 108]), .lit (.string [100, 97, 115])], .agg [.lit (.string [115, 104, 114]), .lit (.string [100, 97, 115])], .agg [.lit (.string [108, 111, 97, 100]), .lit (.string [100, 115])], .agg [.lit (.string [115, 116, 111, 114, 101]), .lit (.string [97, 115])], .agg [.lit (.string [102, 105, 101, 108, 100]), .lit (.string [100, 102])], .agg [.lit (.string [109, 97, 112]), .lit (.string [100, 109])], .agg [.lit (.string [106, 117, 109, 112]), .lit (.string [106])], .agg [.lit (.string [106, 101, 113]), .lit (.string [106, 97, 115])], .agg [.lit (.string [106, 110, 101]), .lit (.string [106, 97, 115])], .agg [.lit (.string [106, 108, 116]), .lit (.string [106, 97, 115])], .agg [.lit (.string [106, 103, 101]), .lit (.string [106, 97, 115])], .agg [.lit (.string [108, 111, 111, 112]), .lit (.string [98, 97, 110])], .agg [.lit (.string [99, 97, 108, 108]), .lit (.string [104])], .agg [.lit (.string [101, 120, 105, 116]), .lit (.string [97])]]
def laid_tappet_sigs_table {H : Type} : DataW H := .agg [.agg [.lit (.string [103, 101, 116]), .lit (.string [104, 110]), .lit (.int .u64 18446744073709551615), .lit (.int .i64 0), .lit (.bool true)], .agg [.lit (.string [104, 97, 115]), .lit (.string [104, 110]), .lit (.int .u64 1), .lit (.int .i64 1), .lit (.bool true)], .agg [.lit (.string [112, 117, 116]), .lit (.string [104, 110, 110]), .lit (.int .u64 1), .lit (.int .i64 2), .lit (.bool true)], .agg [.lit (.string [100, 101, 108]), .lit (.string [104, 110]), .lit (.int .u64 1), .lit (.int .i64 3), .lit (.bool true)], .agg [.lit (.string [97, 100, 100]), .lit (.string [104, 110, 110]), .lit (.int .u64 18446744073709551615), .lit (.int .i64 4), .lit (.bool true)], .agg [.lit (.string [109, 97, 114, 107]), .lit (.string [115]), .lit (.int .u64 18446744073709551615), .lit (.int .i64 0), .lit (.bool false)], .agg [.lit (.string [110, 111, 116, 101]), .lit (.string [110]), .lit (.int .u64 0), .lit (.int .i64 0), .lit (.bool false)]]

/-- 'tappetlaw25.HostGrows': WHATEVER THE INPUT: true; the input reads as it did. -/
def hostGrowsSpec : ChangeSpec := { name := "hostGrows", fn := fun _ => fun
  | [d] => { results := [.lit (.bool true)], args := [d] }
  | _ => none }
def hostGrowsRow : OpenClaim := { program := "ytplmgfkghomelaagreatdoor", sum := "6fb945813fdcb248b13c8cfc6ab48abfdda99d6610ba8251ba25bf9e4b1b3d59", func := "tappet/tappetlaw25.HostGrows", spec := "hostGrows", inPlace := ["math/bits.Add64"], unfollowed := true, recurses := true, named := ["tappet/ops.forms", "tappet/sigs.table"], apart := false, laid := [("tappet/ops.forms", laid_tappet_ops_forms), ("tappet/sigs.table", laid_tappet_sigs_table)] }
def HostGrowsSaid : Prop := hostGrowsRow.holds Tryz.pinned (OpenSpec.ofChange hostGrowsSpec)

/-- ITS FALSE NEIGHBOUR: 'it returns false'. Refute it at one input. -/
def hostGrowsWrong : ChangeSpec := { name := "hostGrows", fn := fun _ => fun
  | [d] => { results := [.lit (.bool false)], args := [d] }
  | _ => none }
def HostGrowsWrongFalsely : Prop := hostGrowsRow.holds Tryz.pinned (OpenSpec.ofChange hostGrowsWrong)

/-- 'tappetlaw25.HostTurns': WHATEVER THE INPUT: true; the input reads as it did. -/
def hostTurnsSpec : ChangeSpec := { name := "hostTurns", fn := fun _ => fun
  | [d] => { results := [.lit (.bool true)], args := [d] }
  | _ => none }
def hostTurnsRow : OpenClaim := { program := "ytplmgfkghomelaagreatdoor", sum := "6fb945813fdcb248b13c8cfc6ab48abfdda99d6610ba8251ba25bf9e4b1b3d59", func := "tappet/tappetlaw25.HostTurns", spec := "hostTurns", inPlace := ["math/bits.Add64"], unfollowed := true, recurses := true, named := ["tappet/ops.forms", "tappet/sigs.table"], apart := false, laid := [("tappet/ops.forms", laid_tappet_ops_forms), ("tappet/sigs.table", laid_tappet_sigs_table)] }
def HostTurnsSaid : Prop := hostTurnsRow.holds Tryz.pinned (OpenSpec.ofChange hostTurnsSpec)

/-- ITS FALSE NEIGHBOUR: 'it returns false'. Refute it at one input. -/
def hostTurnsWrong : ChangeSpec := { name := "hostTurns", fn := fun _ => fun
  | [d] => { results := [.lit (.bool false)], args := [d] }
  | _ => none }
def HostTurnsWrongFalsely : Prop := hostTurnsRow.holds Tryz.pinned (OpenSpec.ofChange hostTurnsWrong)

/-- 'tappettop.WholeLinear': WHATEVER THE INPUT: true; the input reads as it did. -/
def wholeLinearSpec : ChangeSpec := { name := "wholeLinear", fn := fun _ => fun
  | [d] => { results := [.lit (.bool true)], args := [d] }
  | _ => none }
def wholeLinearRow : OpenClaim := { program := "ytplmgfkghomelaagreatdoor", sum := "6fb945813fdcb248b13c8cfc6ab48abfdda99d6610ba8251ba25bf9e4b1b3d59", func := "tappet/tappettop.WholeLinear", spec := "wholeLinear", inPlace := ["math/bits.Add64"], unfollowed := true, recurses := true, named := ["tappet/ops.forms", "tappet/sigs.table"], apart := false, laid := [("tappet/ops.forms", laid_tappet_ops_forms), ("tappet/sigs.table", laid_tappet_sigs_table)] }
def WholeLinearSaid : Prop := wholeLinearRow.holds Tryz.pinned (OpenSpec.ofChange wholeLinearSpec)

/-- ITS FALSE NEIGHBOUR: 'it returns false'. Refute it at one input. -/
def wholeLinearWrong : ChangeSpec := { name := "wholeLinear", fn := fun _ => fun
  | [d] => { results := [.lit (.bool false)], args := [d] }
  | _ => none }
def WholeLinearWrongFalsely : Prop := wholeLinearRow.holds Tryz.pinned (OpenSpec.ofChange wholeLinearWrong)

/-- 'tappettop.WholeFull': WHATEVER THE INPUT: true; the input reads as it did. -/
def wholeFullSpec : ChangeSpec := { name := "wholeFull", fn := fun _ => fun
  | [d] => { results := [.lit (.bool true)], args := [d] }
  | _ => none }
def wholeFullRow : OpenClaim := { program := "ytplmgfkghomelaagreatdoor", sum := "6fb945813fdcb248b13c8cfc6ab48abfdda99d6610ba8251ba25bf9e4b1b3d59", func := "tappet/tappettop.WholeFull", spec := "wholeFull", inPlace := ["math/bits.Add64"], unfollowed := true, recurses := true, named := ["tappet/ops.forms", "tappet/sigs.table"], apart := false, laid := [("tappet/ops.forms", laid_tappet_ops_forms), ("tappet/sigs.table", laid_tappet_sigs_table)] }
def WholeFullSaid : Prop := wholeFullRow.holds Tryz.pinned (OpenSpec.ofChange wholeFullSpec)

/-- ITS FALSE NEIGHBOUR: 'it returns false'. Refute it at one input. -/
def wholeFullWrong : ChangeSpec := { name := "wholeFull", fn := fun _ => fun
  | [d] => { results := [.lit (.bool false)], args := [d] }
  | _ => none }
def WholeFullWrongFalsely : Prop := wholeFullRow.holds Tryz.pinned (OpenSpec.ofChange wholeFullWrong)

/-- 'tappettop.WholeEnds': WHATEVER THE INPUT: true; the input reads as it did. -/
def wholeEndsSpec : ChangeSpec := { name := "wholeEnds", fn := fun _ => fun
  | [d] => { results := [.lit (.bool true)], args := [d] }
  | _ => none }
def wholeEndsRow : OpenClaim := { program := "ytplmgfkghomelaagreatdoor", sum := "6fb945813fdcb248b13c8cfc6ab48abfdda99d6610ba8251ba25bf9e4b1b3d59", func := "tappet/tappettop.WholeEnds", spec := "wholeEnds", inPlace := ["math/bits.Add64"], unfollowed := true, recurses := true, named := ["tappet/ops.forms", "tappet/sigs.table"], apart := false, laid := [("tappet/ops.forms", laid_tappet_ops_forms), ("tappet/sigs.table", laid_tappet_sigs_table)] }
def WholeEndsSaid : Prop := wholeEndsRow.holds Tryz.pinned (OpenSpec.ofChange wholeEndsSpec)

/-- ITS FALSE NEIGHBOUR: 'it returns false'. Refute it at one input. -/
def wholeEndsWrong : ChangeSpec := { name := "wholeEnds", fn := fun _ => fun
  | [d] => { results := [.lit (.bool false)], args := [d] }
  | _ => none }
def WholeEndsWrongFalsely : Prop := wholeEndsRow.holds Tryz.pinned (OpenSpec.ofChange wholeEndsWrong)

/-- 'tappettop.WholeCounts': WHATEVER THE INPUT: true; the input reads as it did. -/
def wholeCountsSpec : ChangeSpec := { name := "wholeCounts", fn := fun _ => fun
  | [d] => { results := [.lit (.bool true)], args := [d] }
  | _ => none }
def wholeCountsRow : OpenClaim := { program := "ytplmgfkghomelaagreatdoor", sum := "6fb945813fdcb248b13c8cfc6ab48abfdda99d6610ba8251ba25bf9e4b1b3d59", func := "tappet/tappettop.WholeCounts", spec := "wholeCounts", inPlace := ["math/bits.Add64"], unfollowed := true, recurses := true, named := ["tappet/ops.forms", "tappet/sigs.table"], apart := false, laid := [("tappet/ops.forms", laid_tappet_ops_forms), ("tappet/sigs.table", laid_tappet_sigs_table)] }
def WholeCountsSaid : Prop := wholeCountsRow.holds Tryz.pinned (OpenSpec.ofChange wholeCountsSpec)

/-- ITS FALSE NEIGHBOUR: 'it returns false'. Refute it at one input. -/
def wholeCountsWrong : ChangeSpec := { name := "wholeCounts", fn := fun _ => fun
  | [d] => { results := [.lit (.bool false)], args := [d] }
  | _ => none }
def WholeCountsWrongFalsely : Prop := wholeCountsRow.holds Tryz.pinned (OpenSpec.ofChange wholeCountsWrong)

/-- 'tappettop.WholeRefs': WHATEVER THE INPUT: true; the input reads as it did. -/
def wholeRefsSpec : ChangeSpec := { name := "wholeRefs", fn := fun _ => fun
  | [d] => { results := [.lit (.bool true)], args := [d] }
  | _ => none }
def wholeRefsRow : OpenClaim := { program := "ytplmgfkghomelaagreatdoor", sum := "6fb945813fdcb248b13c8cfc6ab48abfdda99d6610ba8251ba25bf9e4b1b3d59", func := "tappet/tappettop.WholeRefs", spec := "wholeRefs", inPlace := ["math/bits.Add64"], unfollowed := true, recurses := true, named := ["tappet/ops.forms", "tappet/sigs.table"], apart := false, laid := [("tappet/ops.forms", laid_tappet_ops_forms), ("tappet/sigs.table", laid_tappet_sigs_table)] }
def WholeRefsSaid : Prop := wholeRefsRow.holds Tryz.pinned (OpenSpec.ofChange wholeRefsSpec)

/-- ITS FALSE NEIGHBOUR: 'it returns false'. Refute it at one input. -/
def wholeRefsWrong : ChangeSpec := { name := "wholeRefs", fn := fun _ => fun
  | [d] => { results := [.lit (.bool false)], args := [d] }
  | _ => none }
def WholeRefsWrongFalsely : Prop := wholeRefsRow.holds Tryz.pinned (OpenSpec.ofChange wholeRefsWrong)

/- THE SECOND FORM. 'bulk': how many values and letters a reading holds, each counted each time it is reached (what is shared counts as often as it is met; a slice's spare places count too). A statement '..UptoSaid' is the law's where the arguments, and the package variables that the reading takes, are together of bulk at most 1048576: NARROWER than '..Said'. Prove '..Said' where nothing that the law and all that it calls make is longer than what came in: it says more and counts as full. Else prove '..UptoSaid'. A law counts once. -/
mutual
def uptoBulk {H : Type} : DataW H → Nat
  | .lit (.string bytes) => bytes.length + 1
  | .lit _ => 1
  | .nil => 1
  | .ptr d => uptoBulk d + 1
  | .slice elems spare => uptoBulkAll elems + uptoBulkAll spare + 1
  | .agg parts => uptoBulkAll parts + 1
  | .iface _ d => uptoBulk d + 1
  | .map entries => uptoBulkEntries entries + 1
  | .held _ => 1
def uptoBulkAll {H : Type} : List (DataW H) → Nat
  | [] => 0
  | d :: r => uptoBulk d + uptoBulkAll r
def uptoBulkEntries {H : Type} : List (Lit × DataW H) → Nat
  | [] => 0
  | x :: r => uptoBulkEntry x + uptoBulkEntries r
def uptoBulkEntry {H : Type} : Lit × DataW H → Nat
  | (.string bytes, d) => bytes.length + uptoBulk d + 1
  | (_, d) => uptoBulk d + 1
 end
def uptoSmall : (H : Type) → List (DataW H) → Bool := fun _ ds => decide (uptoBulkAll ds ≤ 1048576)
def OpenSpec.upto (s : _root_.Go.ChangeSpec) : _root_.Go.OpenSpec := { _root_.Go.OpenSpec.ofChange s with cond := some uptoSmall }

/-- 'tappetlaw25.HostGrows', WHERE WHAT IT READS IS OF BULK AT MOST 1048576: true; the input reads as it did. -/
def hostGrowsUptoRow : OpenClaim := { program := "ytplmgfkghomelaagreatdoor", sum := "6fb945813fdcb248b13c8cfc6ab48abfdda99d6610ba8251ba25bf9e4b1b3d59", func := "tappet/tappetlaw25.HostGrows", spec := "hostGrows", inPlace := ["math/bits.Add64"], unfollowed := true, recurses := true, named := ["tappet/ops.forms", "tappet/sigs.table"], apart := false, laid := [("tappet/ops.forms", laid_tappet_ops_forms), ("tappet/sigs.table", laid_tappet_sigs_table)], narrowed := true }
def HostGrowsUptoSaid : Prop := hostGrowsUptoRow.holds Tryz.pinned (OpenSpec.upto hostGrowsSpec)

/-- 'tappetlaw25.HostTurns', WHERE WHAT IT READS IS OF BULK AT MOST 1048576: true; the input reads as it did. -/
def hostTurnsUptoRow : OpenClaim := { program := "ytplmgfkghomelaagreatdoor", sum := "6fb945813fdcb248b13c8cfc6ab48abfdda99d6610ba8251ba25bf9e4b1b3d59", func := "tappet/tappetlaw25.HostTurns", spec := "hostTurns", inPlace := ["math/bits.Add64"], unfollowed := true, recurses := true, named := ["tappet/ops.forms", "tappet/sigs.table"], apart := false, laid := [("tappet/ops.forms", laid_tappet_ops_forms), ("tappet/sigs.table", laid_tappet_sigs_table)], narrowed := true }
def HostTurnsUptoSaid : Prop := hostTurnsUptoRow.holds Tryz.pinned (OpenSpec.upto hostTurnsSpec)

/-- 'tappettop.WholeLinear', WHERE WHAT IT READS IS OF BULK AT MOST 1048576: true; the input reads as it did. -/
def wholeLinearUptoRow : OpenClaim := { program := "ytplmgfkghomelaagreatdoor", sum := "6fb945813fdcb248b13c8cfc6ab48abfdda99d6610ba8251ba25bf9e4b1b3d59", func := "tappet/tappettop.WholeLinear", spec := "wholeLinear", inPlace := ["math/bits.Add64"], unfollowed := true, recurses := true, named := ["tappet/ops.forms", "tappet/sigs.table"], apart := false, laid := [("tappet/ops.forms", laid_tappet_ops_forms), ("tappet/sigs.table", laid_tappet_sigs_table)], narrowed := true }
def WholeLinearUptoSaid : Prop := wholeLinearUptoRow.holds Tryz.pinned (OpenSpec.upto wholeLinearSpec)

/-- 'tappettop.WholeFull', WHERE WHAT IT READS IS OF BULK AT MOST 1048576: true; the input reads as it did. -/
def wholeFullUptoRow : OpenClaim := { program := "ytplmgfkghomelaagreatdoor", sum := "6fb945813fdcb248b13c8cfc6ab48abfdda99d6610ba8251ba25bf9e4b1b3d59", func := "tappet/tappettop.WholeFull", spec := "wholeFull", inPlace := ["math/bits.Add64"], unfollowed := true, recurses := true, named := ["tappet/ops.forms", "tappet/sigs.table"], apart := false, laid := [("tappet/ops.forms", laid_tappet_ops_forms), ("tappet/sigs.table", laid_tappet_sigs_table)], narrowed := true }
def WholeFullUptoSaid : Prop := wholeFullUptoRow.holds Tryz.pinned (OpenSpec.upto wholeFullSpec)

/-- 'tappettop.WholeEnds', WHERE WHAT IT READS IS OF BULK AT MOST 1048576: true; the input reads as it did. -/
def wholeEndsUptoRow : OpenClaim := { program := "ytplmgfkghomelaagreatdoor", sum := "6fb945813fdcb248b13c8cfc6ab48abfdda99d6610ba8251ba25bf9e4b1b3d59", func := "tappet/tappettop.WholeEnds", spec := "wholeEnds", inPlace := ["math/bits.Add64"], unfollowed := true, recurses := true, named := ["tappet/ops.forms", "tappet/sigs.table"], apart := false, laid := [("tappet/ops.forms", laid_tappet_ops_forms), ("tappet/sigs.table", laid_tappet_sigs_table)], narrowed := true }
def WholeEndsUptoSaid : Prop := wholeEndsUptoRow.holds Tryz.pinned (OpenSpec.upto wholeEndsSpec)

/-- 'tappettop.WholeCounts', WHERE WHAT IT READS IS OF BULK AT MOST 1048576: true; the input reads as it did. -/
def wholeCountsUptoRow : OpenClaim := { program := "ytplmgfkghomelaagreatdoor", sum := "6fb945813fdcb248b13c8cfc6ab48abfdda99d6610ba8251ba25bf9e4b1b3d59", func := "tappet/tappettop.WholeCounts", spec := "wholeCounts", inPlace := ["math/bits.Add64"], unfollowed := true, recurses := true, named := ["tappet/ops.forms", "tappet/sigs.table"], apart := false, laid := [("tappet/ops.forms", laid_tappet_ops_forms), ("tappet/sigs.table", laid_tappet_sigs_table)], narrowed := true }
def WholeCountsUptoSaid : Prop := wholeCountsUptoRow.holds Tryz.pinned (OpenSpec.upto wholeCountsSpec)

/-- 'tappettop.WholeRefs', WHERE WHAT IT READS IS OF BULK AT MOST 1048576: true; the input reads as it did. -/
def wholeRefsUptoRow : OpenClaim := { program := "ytplmgfkghomelaagreatdoor", sum := "6fb945813fdcb248b13c8cfc6ab48abfdda99d6610ba8251ba25bf9e4b1b3d59", func := "tappet/tappettop.WholeRefs", spec := "wholeRefs", inPlace := ["math/bits.Add64"], unfollowed := true, recurses := true, named := ["tappet/ops.forms", "tappet/sigs.table"], apart := false, laid := [("tappet/ops.forms", laid_tappet_ops_forms), ("tappet/sigs.table", laid_tappet_sigs_table)], narrowed := true }
def WholeRefsUptoSaid : Prop := wholeRefsUptoRow.holds Tryz.pinned (OpenSpec.upto wholeRefsSpec)

end Rows
end Go.Proofs.YtplmgfkghomelaaGreatDoor
