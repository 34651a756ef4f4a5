/-
  NARROWER THAN 'FOR EVERY INPUT', by the rows' own cells (each row's printed sentence says how): WorkerPlays: laid · WorkerApart: laid · RegistryPlays: laid.
  DERIVED. THE GIVEN ROWS OF THIS SEAT. 3 by the template 'for every input the law returns true; each argument reads behind the call as it read before'; 0 by the template 'total and deterministic' (their statements: YtbmknhpfkpmigaaGreatDoorTotals.lean).
  GIVEN WITH THE SEED: the statements are not yours to turn. If you find one false, say at which input.
  Laid BY PROGRAM, IN A SANDBOX (cutbox-rows.mjs): the forced cells as the released guide's own fill.sh prints them over the translation f0425388254a3879… (all of the seat's roots in one cut). By AI agents, Wed Nov 11 2026. No macro, syntax, notation, axiom, sorry.
-/
import Derived.Test.YtbmknhpfkpmigaaGreatDoorChecked
import GoSem.Claim
import GoSem.ClaimJoined
import GoSem.ClaimMapViews
import Derived.JoinedTies
import Derived.KernelRfl
namespace Go.Proofs.YtbmknhpfkpmigaaGreatDoor
/- THE CELL 'sum', in the pinned program and in every row, IS THE sha256 OF THE DUMP (.gsa) THAT YtbmknhpfkpmigaaGreatDoorProg.lean LOADS. Nothing in Lean hashes anything: it is a label: what it is worth is what the hold of that sum in a sandbox is worth. -/
noncomputable def Tryz.pinned : Pinned := { name := "ytbmknhpfkpmigaagreatdoor", sum := "f0425388254a3879a030ffc94e8cf8fde18edfb3017eac07edbb8e52e75d3869", checked := Tryz.checked }
namespace Rows
def none {H : Type} : Left H := { results := [], args := [] }

/- WHAT THE LISTED PACKAGE-LEVEL VARIABLES READ AS WHEN THE CALL BEGINS. Each datum BY PROGRAM (the guide's laid-datum.mjs) off the statement by which the dump's own 'gosem.cut.vars' lays the variable. In a bare row this is a premise. The card (YtbmknhpfkpmigaaGreatDoorCards.lean) ties it to the program's text. -/
def laid_tappet_ops_forms {H : Type} : DataW H := .agg [.agg [.lit (.string [115, 101, 116]), .lit (.string [100, 115])], .agg [.lit (.string [97, 100, 100]), .lit (.string [100, 97, 115])], .agg [.lit (.string [115, 117, 98]), .lit (.string [100, 97, 115])], .agg [.lit (.string [109, 117, 108]), .lit (.string [100, 97, 115])], .agg [.lit (.string [100, 105, 118]), .lit (.string [100, 97, 115])], .agg [.lit (.string [114, 101, 109]), .lit (.string [100, 97, 115])], .agg [.lit (.string [97, 110, 100]), .lit (.string [100, 97, 115])], .agg [.lit (.string [111, 114]), .lit (.string [100, 97, 115])], .agg [.lit (.string [120, 111, 114]), .lit (.string [100, 97, 115])], .agg [.lit (.string [115, 104, 108]), .lit (.string [100, 97, 115])], .agg [.lit (.string [115, 104, 114]), .lit (.string [100, 97, 115])], .agg [.lit (.string [108, 111, 97, 100]), .lit (.string [100, 115])], .agg [.lit (.string [115, 116, 111, 114, 101]), .lit (.string [97, 115])], .agg [.lit (.string [102, 105, 101, 108, 100]), .lit (.string [100, 102])], .agg [.lit (.string [109, 97, 112]), .lit (.string [100, 109])], .agg [.lit (.string [106, 117, 109, 112]), .lit (.string [106])], .agg [.lit (.string [106, 101, 113]), .lit (.string [106, 97, 115])], .agg [.lit (.string [106, 110, 101]), .lit (.string [106, 97, 115])], .agg [.lit (.string [106, 108, 116]), .lit (.string [106, 97, 115])], .agg [.lit (.string [106, 103, 101]), .lit (.string [106, 97, 115])], .agg [.lit (.string [108, 111, 111, 112]), .lit (.string [98, 97, 110])], .agg [.lit (.string [99, 97, 108, 108]), .lit (.string [104])], .agg [.lit (.string [101, 120, 105, 116]), .lit (.string [97])]]
def laid_tappet_sigs_table {H : Type} : DataW H := .agg [.agg [.lit (.string [103, 101, 116]), .lit (.string [104, 110]), .lit (.int .u64 18446744073709551615), .lit (.int .i64 0), .lit (.bool true)], .agg [.lit (.string [104, 97, 115]), .lit (.string [104, 110]), .lit (.int .u64 1), .lit (.int .i64 1), .lit (.bool true)], .agg [.lit (.string [112, 117, 116]), .lit (.string [104, 110, 110]), .lit (.int .u64 1), .lit (.int .i64 2), .lit (.bool true)], .agg [.lit (.string [100, 101, 108]), .lit (.string [104, 110]), .lit (.int .u64 1), .lit (.int .i64 3), .lit (.bool true)], .agg [.lit (.string [97, 100, 100]), .lit (.string [104, 110, 110]), .lit (.int .u64 18446744073709551615), .lit (.int .i64 4), .lit (.bool true)], .agg [.lit (.string [109, 97, 114, 107]), .lit (.string [115]), .lit (.int .u64 18446744073709551615), .lit (.int .i64 0), .lit (.bool false)], .agg [.lit (.string [110, 111, 116, 101]), .lit (.string [110]), .lit (.int .u64 0), .lit (.int .i64 0), .lit (.bool false)]]

/-- 'tappetlaw23.WorkerPlays': WHATEVER THE INPUT: true; the input reads as it did. -/
def workerPlaysSpec : ChangeSpec := { name := "workerPlays", fn := fun _ => fun
  | [d] => { results := [.lit (.bool true)], args := [d] }
  | _ => none }
def workerPlaysRow : OpenClaim := { program := "ytbmknhpfkpmigaagreatdoor", sum := "f0425388254a3879a030ffc94e8cf8fde18edfb3017eac07edbb8e52e75d3869", func := "tappet/tappetlaw23.WorkerPlays", spec := "workerPlays", inPlace := ["math/bits.Add64"], named := ["tappet/ops.forms", "tappet/sigs.table"], apart := false, laid := [("tappet/ops.forms", laid_tappet_ops_forms), ("tappet/sigs.table", laid_tappet_sigs_table)] }
def WorkerPlaysSaid : Prop := workerPlaysRow.holds Tryz.pinned (OpenSpec.ofChange workerPlaysSpec)

/-- ITS FALSE NEIGHBOUR: 'it returns false'. Refute it at one input. -/
def workerPlaysWrong : ChangeSpec := { name := "workerPlays", fn := fun _ => fun
  | [d] => { results := [.lit (.bool false)], args := [d] }
  | _ => none }
def WorkerPlaysWrongFalsely : Prop := workerPlaysRow.holds Tryz.pinned (OpenSpec.ofChange workerPlaysWrong)

/-- 'tappetlaw23.WorkerApart': WHATEVER THE INPUT: true; the input reads as it did. -/
def workerApartSpec : ChangeSpec := { name := "workerApart", fn := fun _ => fun
  | [d1, d2] => { results := [.lit (.bool true)], args := [d1, d2] }
  | _ => none }
def workerApartRow : OpenClaim := { program := "ytbmknhpfkpmigaagreatdoor", sum := "f0425388254a3879a030ffc94e8cf8fde18edfb3017eac07edbb8e52e75d3869", func := "tappet/tappetlaw23.WorkerApart", spec := "workerApart", inPlace := ["math/bits.Add64"], named := ["tappet/ops.forms", "tappet/sigs.table"], apart := false, laid := [("tappet/ops.forms", laid_tappet_ops_forms), ("tappet/sigs.table", laid_tappet_sigs_table)] }
def WorkerApartSaid : Prop := workerApartRow.holds Tryz.pinned (OpenSpec.ofChange workerApartSpec)

/-- ITS FALSE NEIGHBOUR: 'it returns false'. Refute it at one input. -/
def workerApartWrong : ChangeSpec := { name := "workerApart", fn := fun _ => fun
  | [d1, d2] => { results := [.lit (.bool false)], args := [d1, d2] }
  | _ => none }
def WorkerApartWrongFalsely : Prop := workerApartRow.holds Tryz.pinned (OpenSpec.ofChange workerApartWrong)

/-- 'tappetlaw24.RegistryPlays': WHATEVER THE INPUT: true; the input reads as it did. -/
def registryPlaysSpec : ChangeSpec := { name := "registryPlays", fn := fun _ => fun
  | [d1, d2, d3] => { results := [.lit (.bool true)], args := [d1, d2, d3] }
  | _ => none }
def registryPlaysRow : OpenClaim := { program := "ytbmknhpfkpmigaagreatdoor", sum := "f0425388254a3879a030ffc94e8cf8fde18edfb3017eac07edbb8e52e75d3869", func := "tappet/tappetlaw24.RegistryPlays", spec := "registryPlays", inPlace := ["math/bits.Add64"], unfollowed := true, recurses := true, named := ["tappet/ops.forms", "tappet/sigs.table"], apart := false, laid := [("tappet/ops.forms", laid_tappet_ops_forms), ("tappet/sigs.table", laid_tappet_sigs_table)] }
def RegistryPlaysSaid : Prop := registryPlaysRow.holds Tryz.pinned (OpenSpec.ofChange registryPlaysSpec)

/-- ITS FALSE NEIGHBOUR: 'it returns false'. Refute it at one input. -/
def registryPlaysWrong : ChangeSpec := { name := "registryPlays", fn := fun _ => fun
  | [d1, d2, d3] => { results := [.lit (.bool false)], args := [d1, d2, d3] }
  | _ => none }
def RegistryPlaysWrongFalsely : Prop := registryPlaysRow.holds Tryz.pinned (OpenSpec.ofChange registryPlaysWrong)

/- THE SECOND FORM. 'bulk': how many values and letters a reading holds, each counted each time it is reached (what is shared counts as often as it is met; a slice's spare places count too). A statement '..UptoSaid' is the law's where the arguments, and the package variables that the reading takes, are together of bulk at most 1048576: NARROWER than '..Said'. Prove '..Said' where nothing that the law and all that it calls make is longer than what came in: it says more and counts as full. Else prove '..UptoSaid'. A law counts once. -/
mutual
def uptoBulk {H : Type} : DataW H → Nat
  | .lit (.string bytes) => bytes.length + 1
  | .lit _ => 1
  | .nil => 1
  | .ptr d => uptoBulk d + 1
  | .slice elems spare => uptoBulkAll elems + uptoBulkAll spare + 1
  | .agg parts => uptoBulkAll parts + 1
  | .iface _ d => uptoBulk d + 1
  | .map entries => uptoBulkEntries entries + 1
  | .held _ => 1
def uptoBulkAll {H : Type} : List (DataW H) → Nat
  | [] => 0
  | d :: r => uptoBulk d + uptoBulkAll r
def uptoBulkEntries {H : Type} : List (Lit × DataW H) → Nat
  | [] => 0
  | x :: r => uptoBulkEntry x + uptoBulkEntries r
def uptoBulkEntry {H : Type} : Lit × DataW H → Nat
  | (.string bytes, d) => bytes.length + uptoBulk d + 1
  | (_, d) => uptoBulk d + 1
 end
def uptoSmall : (H : Type) → List (DataW H) → Bool := fun _ ds => decide (uptoBulkAll ds ≤ 1048576)
def OpenSpec.upto (s : _root_.Go.ChangeSpec) : _root_.Go.OpenSpec := { _root_.Go.OpenSpec.ofChange s with cond := some uptoSmall }

/-- 'tappetlaw23.WorkerPlays', WHERE WHAT IT READS IS OF BULK AT MOST 1048576: true; the input reads as it did. -/
def workerPlaysUptoRow : OpenClaim := { program := "ytbmknhpfkpmigaagreatdoor", sum := "f0425388254a3879a030ffc94e8cf8fde18edfb3017eac07edbb8e52e75d3869", func := "tappet/tappetlaw23.WorkerPlays", spec := "workerPlays", inPlace := ["math/bits.Add64"], named := ["tappet/ops.forms", "tappet/sigs.table"], apart := false, laid := [("tappet/ops.forms", laid_tappet_ops_forms), ("tappet/sigs.table", laid_tappet_sigs_table)], narrowed := true }
def WorkerPlaysUptoSaid : Prop := workerPlaysUptoRow.holds Tryz.pinned (OpenSpec.upto workerPlaysSpec)

/-- 'tappetlaw23.WorkerApart', WHERE WHAT IT READS IS OF BULK AT MOST 1048576: true; the input reads as it did. -/
def workerApartUptoRow : OpenClaim := { program := "ytbmknhpfkpmigaagreatdoor", sum := "f0425388254a3879a030ffc94e8cf8fde18edfb3017eac07edbb8e52e75d3869", func := "tappet/tappetlaw23.WorkerApart", spec := "workerApart", inPlace := ["math/bits.Add64"], named := ["tappet/ops.forms", "tappet/sigs.table"], apart := false, laid := [("tappet/ops.forms", laid_tappet_ops_forms), ("tappet/sigs.table", laid_tappet_sigs_table)], narrowed := true }
def WorkerApartUptoSaid : Prop := workerApartUptoRow.holds Tryz.pinned (OpenSpec.upto workerApartSpec)

/-- 'tappetlaw24.RegistryPlays', WHERE WHAT IT READS IS OF BULK AT MOST 1048576: true; the input reads as it did. -/
def registryPlaysUptoRow : OpenClaim := { program := "ytbmknhpfkpmigaagreatdoor", sum := "f0425388254a3879a030ffc94e8cf8fde18edfb3017eac07edbb8e52e75d3869", func := "tappet/tappetlaw24.RegistryPlays", spec := "registryPlays", inPlace := ["math/bits.Add64"], unfollowed := true, recurses := true, named := ["tappet/ops.forms", "tappet/sigs.table"], apart := false, laid := [("tappet/ops.forms", laid_tappet_ops_forms), ("tappet/sigs.table", laid_tappet_sigs_table)], narrowed := true }
def RegistryPlaysUptoSaid : Prop := registryPlaysUptoRow.holds Tryz.pinned (OpenSpec.upto registryPlaysSpec)

end Rows
end Go.Proofs.YtbmknhpfkpmigaaGreatDoor
