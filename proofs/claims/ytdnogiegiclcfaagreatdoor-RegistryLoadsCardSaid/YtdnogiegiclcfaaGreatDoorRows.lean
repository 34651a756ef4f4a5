/-
  NARROWER THAN 'FOR EVERY INPUT', by the rows' own cells (each row's printed sentence says how): RegistryLoads: laid · RegistryGrace: laid · RegistryNumbers: laid · RegistryRefs: laid · RegistryPlays: laid.
  DERIVED. THE GIVEN ROWS OF THIS SEAT. 5 by the template 'for every input the law returns true; each argument reads behind the call as it read before'; 0 by the template 'total and deterministic' (their statements: YtdnogiegiclcfaaGreatDoorTotals.lean).
  GIVEN WITH THE SEED: the statements are not yours to turn. If you find one false, say at which input.
  Laid BY PROGRAM, IN A SANDBOX (cutbox-rows.mjs): the forced cells as the released guide's own fill.sh prints them over the translation 50546653c84ae693… (all of the seat's roots in one cut). By AI agents, Wed Nov 11 2026. No macro, syntax, notation, axiom, sorry.
-/
import Derived.Test.YtdnogiegiclcfaaGreatDoorChecked
import GoSem.Claim
import GoSem.ClaimJoined
import GoSem.ClaimMapViews
import Derived.JoinedTies
import Derived.KernelRfl
namespace Go.Proofs.YtdnogiegiclcfaaGreatDoor
/- THE CELL 'sum', in the pinned program and in every row, IS THE sha256 OF THE DUMP (.gsa) THAT YtdnogiegiclcfaaGreatDoorProg.lean LOADS. Nothing in Lean hashes anything: it is a label: what it is worth is what the hold of that sum in a sandbox is worth. -/
noncomputable def Tryz.pinned : Pinned := { name := "ytdnogiegiclcfaagreatdoor", sum := "50546653c84ae6930f3ade8c3403a71e06c7a8be71a36fe8a27b6fcda2cc3059", checked := Tryz.checked }
namespace Rows
def none {H : Type} : Left H := { results := [], args := [] }

/- WHAT THE LISTED PACKAGE-LEVEL VARIABLES READ AS WHEN THE CALL BEGINS. Each datum BY PROGRAM (the guide's laid-datum.mjs) off the statement by which the dump's own 'gosem.cut.vars' lays the variable. In a bare row this is a premise. The card (YtdnogiegiclcfaaGreatDoorCards.lean) ties it to the program's text. -/
def laid_tappet_ops_forms {H : Type} : DataW H := .agg [.agg [.lit (.string [115, 101, 116]), .lit (.string [100, 115])], .agg [.lit (.string [97, 100, 100]), .lit (.string [100, 97, 115])], .agg [.lit (.string [115, 117, 98]), .lit (.string [100, 97, 115])], .agg [.lit (.string [109, 117, 108]), .lit (.string [100, 97, 115])], .agg [.lit (.string [100, 105, 118]), .lit (.string [100, 97, 115])], .agg [.lit (.string [114, 101, 109]), .lit (.string [100, 97, 115])], .agg [.lit (.string [97, 110, 100]), .lit (.string [100, 97, 115])], .agg [.lit (.string [111, 114]), .lit (.string [100, 97, 115])], .agg [.lit (.string [120, 111, 114]), .lit (.string [100, 97, 115])], .agg [.lit (.string [115, 104, 108]), .lit (.string [100, 97, 115])], .agg [.lit (.string [115, 104, 114]), .lit (.string [100, 97, 115])], .agg [.lit (.string [108, 111, 97, 100]), .lit (.string [100, 115])], .agg [.lit (.string [115, 116, 111, 114, 101]), .lit (.string [97, 115])], .agg [.lit (.string [102, 105, 101, 108, 100]), .lit (.string [100, 102])], .agg [.lit (.string [109, 97, 112]), .lit (.string [100, 109])], .agg [.lit (.string [106, 117, 109, 112]), .lit (.string [106])], .agg [.lit (.string [106, 101, 113]), .lit (.string [106, 97, 115])], .agg [.lit (.string [106, 110, 101]), .lit (.string [106, 97, 115])], .agg [.lit (.string [106, 108, 116]), .lit (.string [106, 97, 115])], .agg [.lit (.string [106, 103, 101]), .lit (.string [106, 97, 115])], .agg [.lit (.string [108, 111, 111, 112]), .lit (.string [98, 97, 110])], .agg [.lit (.string [99, 97, 108, 108]), .lit (.string [104])], .agg [.lit (.string [101, 120, 105, 116]), .lit (.string [97])]]
def laid_tappet_sigs_table {H : Type} : DataW H := .agg [.agg [.lit (.string [103, 101, 116]), .lit (.string [104, 110]), .lit (.int .u64 18446744073709551615), .lit (.int .i64 0), .lit (.bool true)], .agg [.lit (.string [104, 97, 115]), .lit (.string [104, 110]), .lit (.int .u64 1), .lit (.int .i64 1), .lit (.bool true)], .agg [.lit (.string [112, 117, 116]), .lit (.string [104, 110, 110]), .lit (.int .u64 1), .lit (.int .i64 2), .lit (.bool true)], .agg [.lit (.string [100, 101, 108]), .lit (.string [104, 110]), .lit (.int .u64 1), .lit (.int .i64 3), .lit (.bool true)], .agg [.lit (.string [97, 100, 100]), .lit (.string [104, 110, 110]), .lit (.int .u64 18446744073709551615), .lit (.int .i64 4), .lit (.bool true)], .agg [.lit (.string [109, 97, 114, 107]), .lit (.string [115]), .lit (.int .u64 18446744073709551615), .lit (.int .i64 0), .lit (.bool false)], .agg [.lit (.string [110, 111, 116, 101]), .lit (.string [110]), .lit (.int .u64 0), .lit (.int .i64 0), .lit (.bool false)]]

/-- 'tappetlaw24.RegistryLoads': WHATEVER THE INPUT: true; the input reads as it did. -/
def registryLoadsSpec : ChangeSpec := { name := "registryLoads", fn := fun _ => fun
  | [d1, d2] => { results := [.lit (.bool true)], args := [d1, d2] }
  | _ => none }
def registryLoadsRow : OpenClaim := { program := "ytdnogiegiclcfaagreatdoor", sum := "50546653c84ae6930f3ade8c3403a71e06c7a8be71a36fe8a27b6fcda2cc3059", func := "tappet/tappetlaw24.RegistryLoads", spec := "registryLoads", inPlace := ["math/bits.Add64"], unfollowed := true, recurses := true, named := ["tappet/ops.forms", "tappet/sigs.table"], apart := false, laid := [("tappet/ops.forms", laid_tappet_ops_forms), ("tappet/sigs.table", laid_tappet_sigs_table)] }
def RegistryLoadsSaid : Prop := registryLoadsRow.holds Tryz.pinned (OpenSpec.ofChange registryLoadsSpec)

/-- ITS FALSE NEIGHBOUR: 'it returns false'. Refute it at one input. -/
def registryLoadsWrong : ChangeSpec := { name := "registryLoads", fn := fun _ => fun
  | [d1, d2] => { results := [.lit (.bool false)], args := [d1, d2] }
  | _ => none }
def RegistryLoadsWrongFalsely : Prop := registryLoadsRow.holds Tryz.pinned (OpenSpec.ofChange registryLoadsWrong)

/-- 'tappetlaw24.RegistryGrace': WHATEVER THE INPUT: true; the input reads as it did. -/
def registryGraceSpec : ChangeSpec := { name := "registryGrace", fn := fun _ => fun
  | [d] => { results := [.lit (.bool true)], args := [d] }
  | _ => none }
def registryGraceRow : OpenClaim := { program := "ytdnogiegiclcfaagreatdoor", sum := "50546653c84ae6930f3ade8c3403a71e06c7a8be71a36fe8a27b6fcda2cc3059", func := "tappet/tappetlaw24.RegistryGrace", spec := "registryGrace", inPlace := ["math/bits.Add64"], unfollowed := true, recurses := true, named := ["tappet/ops.forms", "tappet/sigs.table"], apart := false, laid := [("tappet/ops.forms", laid_tappet_ops_forms), ("tappet/sigs.table", laid_tappet_sigs_table)] }
def RegistryGraceSaid : Prop := registryGraceRow.holds Tryz.pinned (OpenSpec.ofChange registryGraceSpec)

/-- ITS FALSE NEIGHBOUR: 'it returns false'. Refute it at one input. -/
def registryGraceWrong : ChangeSpec := { name := "registryGrace", fn := fun _ => fun
  | [d] => { results := [.lit (.bool false)], args := [d] }
  | _ => none }
def RegistryGraceWrongFalsely : Prop := registryGraceRow.holds Tryz.pinned (OpenSpec.ofChange registryGraceWrong)

/-- 'tappetlaw24.RegistryNumbers': WHATEVER THE INPUT: true; the input reads as it did. -/
def registryNumbersSpec : ChangeSpec := { name := "registryNumbers", fn := fun _ => fun
  | [d] => { results := [.lit (.bool true)], args := [d] }
  | _ => none }
def registryNumbersRow : OpenClaim := { program := "ytdnogiegiclcfaagreatdoor", sum := "50546653c84ae6930f3ade8c3403a71e06c7a8be71a36fe8a27b6fcda2cc3059", func := "tappet/tappetlaw24.RegistryNumbers", spec := "registryNumbers", inPlace := ["math/bits.Add64"], unfollowed := true, recurses := true, named := ["tappet/ops.forms", "tappet/sigs.table"], apart := false, laid := [("tappet/ops.forms", laid_tappet_ops_forms), ("tappet/sigs.table", laid_tappet_sigs_table)] }
def RegistryNumbersSaid : Prop := registryNumbersRow.holds Tryz.pinned (OpenSpec.ofChange registryNumbersSpec)

/-- ITS FALSE NEIGHBOUR: 'it returns false'. Refute it at one input. -/
def registryNumbersWrong : ChangeSpec := { name := "registryNumbers", fn := fun _ => fun
  | [d] => { results := [.lit (.bool false)], args := [d] }
  | _ => none }
def RegistryNumbersWrongFalsely : Prop := registryNumbersRow.holds Tryz.pinned (OpenSpec.ofChange registryNumbersWrong)

/-- 'tappetlaw24.RegistryRefs': WHATEVER THE INPUT: true; the input reads as it did. -/
def registryRefsSpec : ChangeSpec := { name := "registryRefs", fn := fun _ => fun
  | [d] => { results := [.lit (.bool true)], args := [d] }
  | _ => none }
def registryRefsRow : OpenClaim := { program := "ytdnogiegiclcfaagreatdoor", sum := "50546653c84ae6930f3ade8c3403a71e06c7a8be71a36fe8a27b6fcda2cc3059", func := "tappet/tappetlaw24.RegistryRefs", spec := "registryRefs", inPlace := ["math/bits.Add64"], unfollowed := true, recurses := true, named := ["tappet/ops.forms", "tappet/sigs.table"], apart := false, laid := [("tappet/ops.forms", laid_tappet_ops_forms), ("tappet/sigs.table", laid_tappet_sigs_table)] }
def RegistryRefsSaid : Prop := registryRefsRow.holds Tryz.pinned (OpenSpec.ofChange registryRefsSpec)

/-- ITS FALSE NEIGHBOUR: 'it returns false'. Refute it at one input. -/
def registryRefsWrong : ChangeSpec := { name := "registryRefs", fn := fun _ => fun
  | [d] => { results := [.lit (.bool false)], args := [d] }
  | _ => none }
def RegistryRefsWrongFalsely : Prop := registryRefsRow.holds Tryz.pinned (OpenSpec.ofChange registryRefsWrong)

/-- 'tappetlaw24.RegistryPlays': WHATEVER THE INPUT: true; the input reads as it did. -/
def registryPlaysSpec : ChangeSpec := { name := "registryPlays", fn := fun _ => fun
  | [d1, d2, d3] => { results := [.lit (.bool true)], args := [d1, d2, d3] }
  | _ => none }
def registryPlaysRow : OpenClaim := { program := "ytdnogiegiclcfaagreatdoor", sum := "50546653c84ae6930f3ade8c3403a71e06c7a8be71a36fe8a27b6fcda2cc3059", func := "tappet/tappetlaw24.RegistryPlays", spec := "registryPlays", inPlace := ["math/bits.Add64"], unfollowed := true, recurses := true, named := ["tappet/ops.forms", "tappet/sigs.table"], apart := false, laid := [("tappet/ops.forms", laid_tappet_ops_forms), ("tappet/sigs.table", laid_tappet_sigs_table)] }
def RegistryPlaysSaid : Prop := registryPlaysRow.holds Tryz.pinned (OpenSpec.ofChange registryPlaysSpec)

/-- ITS FALSE NEIGHBOUR: 'it returns false'. Refute it at one input. -/
def registryPlaysWrong : ChangeSpec := { name := "registryPlays", fn := fun _ => fun
  | [d1, d2, d3] => { results := [.lit (.bool false)], args := [d1, d2, d3] }
  | _ => none }
def RegistryPlaysWrongFalsely : Prop := registryPlaysRow.holds Tryz.pinned (OpenSpec.ofChange registryPlaysWrong)

/- THE SECOND FORM. 'bulk': how many values and letters a reading holds, each counted each time it is reached (what is shared counts as often as it is met; a slice's spare places count too). A statement '..UptoSaid' is the law's where the arguments, and the package variables that the reading takes, are together of bulk at most 1048576: NARROWER than '..Said'. Prove '..Said' where nothing that the law and all that it calls make is longer than what came in: it says more and counts as full. Else prove '..UptoSaid'. A law counts once. -/
mutual
def uptoBulk {H : Type} : DataW H → Nat
  | .lit (.string bytes) => bytes.length + 1
  | .lit _ => 1
  | .nil => 1
  | .ptr d => uptoBulk d + 1
  | .slice elems spare => uptoBulkAll elems + uptoBulkAll spare + 1
  | .agg parts => uptoBulkAll parts + 1
  | .iface _ d => uptoBulk d + 1
  | .map entries => uptoBulkEntries entries + 1
  | .held _ => 1
def uptoBulkAll {H : Type} : List (DataW H) → Nat
  | [] => 0
  | d :: r => uptoBulk d + uptoBulkAll r
def uptoBulkEntries {H : Type} : List (Lit × DataW H) → Nat
  | [] => 0
  | x :: r => uptoBulkEntry x + uptoBulkEntries r
def uptoBulkEntry {H : Type} : Lit × DataW H → Nat
  | (.string bytes, d) => bytes.length + uptoBulk d + 1
  | (_, d) => uptoBulk d + 1
 end
def uptoSmall : (H : Type) → List (DataW H) → Bool := fun _ ds => decide (uptoBulkAll ds ≤ 1048576)
def OpenSpec.upto (s : _root_.Go.ChangeSpec) : _root_.Go.OpenSpec := { _root_.Go.OpenSpec.ofChange s with cond := some uptoSmall }

/-- 'tappetlaw24.RegistryLoads', WHERE WHAT IT READS IS OF BULK AT MOST 1048576: true; the input reads as it did. -/
def registryLoadsUptoRow : OpenClaim := { program := "ytdnogiegiclcfaagreatdoor", sum := "50546653c84ae6930f3ade8c3403a71e06c7a8be71a36fe8a27b6fcda2cc3059", func := "tappet/tappetlaw24.RegistryLoads", spec := "registryLoads", inPlace := ["math/bits.Add64"], unfollowed := true, recurses := true, named := ["tappet/ops.forms", "tappet/sigs.table"], apart := false, laid := [("tappet/ops.forms", laid_tappet_ops_forms), ("tappet/sigs.table", laid_tappet_sigs_table)], narrowed := true }
def RegistryLoadsUptoSaid : Prop := registryLoadsUptoRow.holds Tryz.pinned (OpenSpec.upto registryLoadsSpec)

/-- 'tappetlaw24.RegistryGrace', WHERE WHAT IT READS IS OF BULK AT MOST 1048576: true; the input reads as it did. -/
def registryGraceUptoRow : OpenClaim := { program := "ytdnogiegiclcfaagreatdoor", sum := "50546653c84ae6930f3ade8c3403a71e06c7a8be71a36fe8a27b6fcda2cc3059", func := "tappet/tappetlaw24.RegistryGrace", spec := "registryGrace", inPlace := ["math/bits.Add64"], unfollowed := true, recurses := true, named := ["tappet/ops.forms", "tappet/sigs.table"], apart := false, laid := [("tappet/ops.forms", laid_tappet_ops_forms), ("tappet/sigs.table", laid_tappet_sigs_table)], narrowed := true }
def RegistryGraceUptoSaid : Prop := registryGraceUptoRow.holds Tryz.pinned (OpenSpec.upto registryGraceSpec)

/-- 'tappetlaw24.RegistryNumbers', WHERE WHAT IT READS IS OF BULK AT MOST 1048576: true; the input reads as it did. -/
def registryNumbersUptoRow : OpenClaim := { program := "ytdnogiegiclcfaagreatdoor", sum := "50546653c84ae6930f3ade8c3403a71e06c7a8be71a36fe8a27b6fcda2cc3059", func := "tappet/tappetlaw24.RegistryNumbers", spec := "registryNumbers", inPlace := ["math/bits.Add64"], unfollowed := true, recurses := true, named := ["tappet/ops.forms", "tappet/sigs.table"], apart := false, laid := [("tappet/ops.forms", laid_tappet_ops_forms), ("tappet/sigs.table", laid_tappet_sigs_table)], narrowed := true }
def RegistryNumbersUptoSaid : Prop := registryNumbersUptoRow.holds Tryz.pinned (OpenSpec.upto registryNumbersSpec)

/-- 'tappetlaw24.RegistryRefs', WHERE WHAT IT READS IS OF BULK AT MOST 1048576: true; the input reads as it did. -/
def registryRefsUptoRow : OpenClaim := { program := "ytdnogiegiclcfaagreatdoor", sum := "50546653c84ae6930f3ade8c3403a71e06c7a8be71a36fe8a27b6fcda2cc3059", func := "tappet/tappetlaw24.RegistryRefs", spec := "registryRefs", inPlace := ["math/bits.Add64"], unfollowed := true, recurses := true, named := ["tappet/ops.forms", "tappet/sigs.table"], apart := false, laid := [("tappet/ops.forms", laid_tappet_ops_forms), ("tappet/sigs.table", laid_tappet_sigs_table)], narrowed := true }
def RegistryRefsUptoSaid : Prop := registryRefsUptoRow.holds Tryz.pinned (OpenSpec.upto registryRefsSpec)

/-- 'tappetlaw24.RegistryPlays', WHERE WHAT IT READS IS OF BULK AT MOST 1048576: true; the input reads as it did. -/
def registryPlaysUptoRow : OpenClaim := { program := "ytdnogiegiclcfaagreatdoor", sum := "50546653c84ae6930f3ade8c3403a71e06c7a8be71a36fe8a27b6fcda2cc3059", func := "tappet/tappetlaw24.RegistryPlays", spec := "registryPlays", inPlace := ["math/bits.Add64"], unfollowed := true, recurses := true, named := ["tappet/ops.forms", "tappet/sigs.table"], apart := false, laid := [("tappet/ops.forms", laid_tappet_ops_forms), ("tappet/sigs.table", laid_tappet_sigs_table)], narrowed := true }
def RegistryPlaysUptoSaid : Prop := registryPlaysUptoRow.holds Tryz.pinned (OpenSpec.upto registryPlaysSpec)

end Rows
end Go.Proofs.YtdnogiegiclcfaaGreatDoor
