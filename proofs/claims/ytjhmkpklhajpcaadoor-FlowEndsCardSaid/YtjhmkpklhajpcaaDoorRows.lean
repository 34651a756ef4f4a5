/-
  NARROWER THAN 'FOR EVERY INPUT', by the rows' own cells (each row's printed sentence says how): FlowChecks: laid · FlowLoops: laid · FlowNested: laid · FlowEnds: laid · FlowNexts: laid.
  DERIVED. THE GIVEN ROWS OF THIS SEAT. 5 by the template 'for every input the law returns true; each argument reads behind the call as it read before'; 0 by the template 'total and deterministic' (their statements: YtjhmkpklhajpcaaDoorTotals.lean).
  GIVEN WITH THE SEED: the statements are not yours to turn. If you find one false, say at which input.
  Laid BY PROGRAM, IN A SANDBOX (cutbox-rows.mjs): the forced cells as the released guide's own fill.sh prints them over the translation 7d9a0717ac26c755… (all of the seat's roots in one cut). By AI agents, Wed Nov 11 2026. No macro, syntax, notation, axiom, sorry.
-/
import Derived.Test.YtjhmkpklhajpcaaDoorChecked
import GoSem.Claim
import GoSem.ClaimJoined
import GoSem.ClaimMapViews
import Derived.JoinedTies
import Derived.KernelRfl
namespace Go.Proofs.YtjhmkpklhajpcaaDoor
/- THE CELL 'sum', in the pinned program and in every row, IS THE sha256 OF THE DUMP (.gsa) THAT YtjhmkpklhajpcaaDoorProg.lean LOADS. Nothing in Lean hashes anything: it is a label: what it is worth is what the hold of that sum in a sandbox is worth. -/
noncomputable def Tryd.pinned : Pinned := { name := "ytjhmkpklhajpcaadoor", sum := "7d9a0717ac26c75548e3b51f0105789c5e0b5fbd930c1bb7aabf85b7d5346560", checked := Tryd.checked }
namespace Rows
def none {H : Type} : Left H := { results := [], args := [] }

/- WHAT THE LISTED PACKAGE-LEVEL VARIABLES READ AS WHEN THE CALL BEGINS. Each datum BY PROGRAM (the guide's laid-datum.mjs) off the statement by which the dump's own 'gosem.cut.vars' lays the variable. In a bare row this is a premise. The card (YtjhmkpklhajpcaaDoorCards.lean) ties it to the program's text. -/
def laid_tappet_ops_forms {H : Type} : DataW H := .agg [.agg [.lit (.string [115, 101, 116]), .lit (.string [100, 115])], .agg [.lit (.string [97, 100, 100]), .lit (.string [100, 97, 115])], .agg [.lit (.string [115, 117, 98]), .lit (.string [100, 97, 115])], .agg [.lit (.string [109, 117, 108]), .lit (.string [100, 97, 115])], .agg [.lit (.string [100, 105, 118]), .lit (.string [100, 97, 115])], .agg [.lit (.string [114, 101, 109]), .lit (.string [100, 97, 115])], .agg [.lit (.string [97, 110, 100]), .lit (.string [100, 97, 115])], .agg [.lit (.string [111, 114]), .lit (.string [100, 97, 115])], .agg [.lit (.string [120, 111, 114]), .lit (.string [100, 97, 115])], .agg [.lit (.string [115, 104, 108]), .lit (.string [100, 97, 115])], .agg [.lit (.string [115, 104, 114]), .lit (.string [100, 97, 115])], .agg [.lit (.string [108, 111, 97, 100]), .lit (.string [100, 115])], .agg [.lit (.string [115, 116, 111, 114, 101]), .lit (.string [97, 115])], .agg [.lit (.string [102, 105, 101, 108, 100]), .lit (.string [100, 102])], .agg [.lit (.string [109, 97, 112]), .lit (.string [100, 109])], .agg [.lit (.string [106, 117, 109, 112]), .lit (.string [106])], .agg [.lit (.string [106, 101, 113]), .lit (.string [106, 97, 115])], .agg [.lit (.string [106, 110, 101]), .lit (.string [106, 97, 115])], .agg [.lit (.string [106, 108, 116]), .lit (.string [106, 97, 115])], .agg [.lit (.string [106, 103, 101]), .lit (.string [106, 97, 115])], .agg [.lit (.string [108, 111, 111, 112]), .lit (.string [98, 97, 110])], .agg [.lit (.string [99, 97, 108, 108]), .lit (.string [104])], .agg [.lit (.string [101, 120, 105, 116]), .lit (.string [97])]]

/-- 'tappetlaw07.FlowChecks': WHATEVER THE INPUT: true; the input reads as it did. -/
def flowChecksSpec : ChangeSpec := { name := "flowChecks", fn := fun _ => fun
  | [d] => { results := [.lit (.bool true)], args := [d] }
  | _ => none }
def flowChecksRow : OpenClaim := { program := "ytjhmkpklhajpcaadoor", sum := "7d9a0717ac26c75548e3b51f0105789c5e0b5fbd930c1bb7aabf85b7d5346560", func := "tappet/tappetlaw07.FlowChecks", spec := "flowChecks", named := ["tappet/ops.forms"], apart := false, laid := [("tappet/ops.forms", laid_tappet_ops_forms)] }
def FlowChecksSaid : Prop := flowChecksRow.holds Tryd.pinned (OpenSpec.ofChange flowChecksSpec)

/-- ITS FALSE NEIGHBOUR: 'it returns false'. Refute it at one input. -/
def flowChecksWrong : ChangeSpec := { name := "flowChecks", fn := fun _ => fun
  | [d] => { results := [.lit (.bool false)], args := [d] }
  | _ => none }
def FlowChecksWrongFalsely : Prop := flowChecksRow.holds Tryd.pinned (OpenSpec.ofChange flowChecksWrong)

/-- 'tappetlaw07.FlowLoops': WHATEVER THE INPUT: true; the input reads as it did. -/
def flowLoopsSpec : ChangeSpec := { name := "flowLoops", fn := fun _ => fun
  | [d] => { results := [.lit (.bool true)], args := [d] }
  | _ => none }
def flowLoopsRow : OpenClaim := { program := "ytjhmkpklhajpcaadoor", sum := "7d9a0717ac26c75548e3b51f0105789c5e0b5fbd930c1bb7aabf85b7d5346560", func := "tappet/tappetlaw07.FlowLoops", spec := "flowLoops", named := ["tappet/ops.forms"], apart := false, laid := [("tappet/ops.forms", laid_tappet_ops_forms)] }
def FlowLoopsSaid : Prop := flowLoopsRow.holds Tryd.pinned (OpenSpec.ofChange flowLoopsSpec)

/-- ITS FALSE NEIGHBOUR: 'it returns false'. Refute it at one input. -/
def flowLoopsWrong : ChangeSpec := { name := "flowLoops", fn := fun _ => fun
  | [d] => { results := [.lit (.bool false)], args := [d] }
  | _ => none }
def FlowLoopsWrongFalsely : Prop := flowLoopsRow.holds Tryd.pinned (OpenSpec.ofChange flowLoopsWrong)

/-- 'tappetlaw07.FlowNested': WHATEVER THE INPUT: true; the input reads as it did. -/
def flowNestedSpec : ChangeSpec := { name := "flowNested", fn := fun _ => fun
  | [d] => { results := [.lit (.bool true)], args := [d] }
  | _ => none }
def flowNestedRow : OpenClaim := { program := "ytjhmkpklhajpcaadoor", sum := "7d9a0717ac26c75548e3b51f0105789c5e0b5fbd930c1bb7aabf85b7d5346560", func := "tappet/tappetlaw07.FlowNested", spec := "flowNested", named := ["tappet/ops.forms"], apart := false, laid := [("tappet/ops.forms", laid_tappet_ops_forms)] }
def FlowNestedSaid : Prop := flowNestedRow.holds Tryd.pinned (OpenSpec.ofChange flowNestedSpec)

/-- ITS FALSE NEIGHBOUR: 'it returns false'. Refute it at one input. -/
def flowNestedWrong : ChangeSpec := { name := "flowNested", fn := fun _ => fun
  | [d] => { results := [.lit (.bool false)], args := [d] }
  | _ => none }
def FlowNestedWrongFalsely : Prop := flowNestedRow.holds Tryd.pinned (OpenSpec.ofChange flowNestedWrong)

/-- 'tappetlaw07.FlowEnds': WHATEVER THE INPUT: true; the input reads as it did. -/
def flowEndsSpec : ChangeSpec := { name := "flowEnds", fn := fun _ => fun
  | [d1, d2] => { results := [.lit (.bool true)], args := [d1, d2] }
  | _ => none }
def flowEndsRow : OpenClaim := { program := "ytjhmkpklhajpcaadoor", sum := "7d9a0717ac26c75548e3b51f0105789c5e0b5fbd930c1bb7aabf85b7d5346560", func := "tappet/tappetlaw07.FlowEnds", spec := "flowEnds", recurses := true, named := ["tappet/ops.forms"], apart := false, laid := [("tappet/ops.forms", laid_tappet_ops_forms)] }
def FlowEndsSaid : Prop := flowEndsRow.holds Tryd.pinned (OpenSpec.ofChange flowEndsSpec)

/-- ITS FALSE NEIGHBOUR: 'it returns false'. Refute it at one input. -/
def flowEndsWrong : ChangeSpec := { name := "flowEnds", fn := fun _ => fun
  | [d1, d2] => { results := [.lit (.bool false)], args := [d1, d2] }
  | _ => none }
def FlowEndsWrongFalsely : Prop := flowEndsRow.holds Tryd.pinned (OpenSpec.ofChange flowEndsWrong)

/-- 'tappetlaw07.FlowNexts': WHATEVER THE INPUT: true; the input reads as it did. -/
def flowNextsSpec : ChangeSpec := { name := "flowNexts", fn := fun _ => fun
  | [d1, d2] => { results := [.lit (.bool true)], args := [d1, d2] }
  | _ => none }
def flowNextsRow : OpenClaim := { program := "ytjhmkpklhajpcaadoor", sum := "7d9a0717ac26c75548e3b51f0105789c5e0b5fbd930c1bb7aabf85b7d5346560", func := "tappet/tappetlaw07.FlowNexts", spec := "flowNexts", recurses := true, named := ["tappet/ops.forms"], apart := false, laid := [("tappet/ops.forms", laid_tappet_ops_forms)] }
def FlowNextsSaid : Prop := flowNextsRow.holds Tryd.pinned (OpenSpec.ofChange flowNextsSpec)

/-- ITS FALSE NEIGHBOUR: 'it returns false'. Refute it at one input. -/
def flowNextsWrong : ChangeSpec := { name := "flowNexts", fn := fun _ => fun
  | [d1, d2] => { results := [.lit (.bool false)], args := [d1, d2] }
  | _ => none }
def FlowNextsWrongFalsely : Prop := flowNextsRow.holds Tryd.pinned (OpenSpec.ofChange flowNextsWrong)

/- THE SECOND FORM. 'bulk': how many values and letters a reading holds, each counted each time it is reached (what is shared counts as often as it is met; a slice's spare places count too). A statement '..UptoSaid' is the law's where the arguments, and the package variables that the reading takes, are together of bulk at most 1048576: NARROWER than '..Said'. Prove '..Said' where nothing that the law and all that it calls make is longer than what came in: it says more and counts as full. Else prove '..UptoSaid'. A law counts once. -/
mutual
def uptoBulk {H : Type} : DataW H → Nat
  | .lit (.string bytes) => bytes.length + 1
  | .lit _ => 1
  | .nil => 1
  | .ptr d => uptoBulk d + 1
  | .slice elems spare => uptoBulkAll elems + uptoBulkAll spare + 1
  | .agg parts => uptoBulkAll parts + 1
  | .iface _ d => uptoBulk d + 1
  | .map entries => uptoBulkEntries entries + 1
  | .held _ => 1
def uptoBulkAll {H : Type} : List (DataW H) → Nat
  | [] => 0
  | d :: r => uptoBulk d + uptoBulkAll r
def uptoBulkEntries {H : Type} : List (Lit × DataW H) → Nat
  | [] => 0
  | x :: r => uptoBulkEntry x + uptoBulkEntries r
def uptoBulkEntry {H : Type} : Lit × DataW H → Nat
  | (.string bytes, d) => bytes.length + uptoBulk d + 1
  | (_, d) => uptoBulk d + 1
 end
def uptoSmall : (H : Type) → List (DataW H) → Bool := fun _ ds => decide (uptoBulkAll ds ≤ 1048576)
def OpenSpec.upto (s : _root_.Go.ChangeSpec) : _root_.Go.OpenSpec := { _root_.Go.OpenSpec.ofChange s with cond := some uptoSmall }

/-- 'tappetlaw07.FlowChecks', WHERE WHAT IT READS IS OF BULK AT MOST 1048576: true; the input reads as it did. -/
def flowChecksUptoRow : OpenClaim := { program := "ytjhmkpklhajpcaadoor", sum := "7d9a0717ac26c75548e3b51f0105789c5e0b5fbd930c1bb7aabf85b7d5346560", func := "tappet/tappetlaw07.FlowChecks", spec := "flowChecks", named := ["tappet/ops.forms"], apart := false, laid := [("tappet/ops.forms", laid_tappet_ops_forms)], narrowed := true }
def FlowChecksUptoSaid : Prop := flowChecksUptoRow.holds Tryd.pinned (OpenSpec.upto flowChecksSpec)

/-- 'tappetlaw07.FlowLoops', WHERE WHAT IT READS IS OF BULK AT MOST 1048576: true; the input reads as it did. -/
def flowLoopsUptoRow : OpenClaim := { program := "ytjhmkpklhajpcaadoor", sum := "7d9a0717ac26c75548e3b51f0105789c5e0b5fbd930c1bb7aabf85b7d5346560", func := "tappet/tappetlaw07.FlowLoops", spec := "flowLoops", named := ["tappet/ops.forms"], apart := false, laid := [("tappet/ops.forms", laid_tappet_ops_forms)], narrowed := true }
def FlowLoopsUptoSaid : Prop := flowLoopsUptoRow.holds Tryd.pinned (OpenSpec.upto flowLoopsSpec)

/-- 'tappetlaw07.FlowNested', WHERE WHAT IT READS IS OF BULK AT MOST 1048576: true; the input reads as it did. -/
def flowNestedUptoRow : OpenClaim := { program := "ytjhmkpklhajpcaadoor", sum := "7d9a0717ac26c75548e3b51f0105789c5e0b5fbd930c1bb7aabf85b7d5346560", func := "tappet/tappetlaw07.FlowNested", spec := "flowNested", named := ["tappet/ops.forms"], apart := false, laid := [("tappet/ops.forms", laid_tappet_ops_forms)], narrowed := true }
def FlowNestedUptoSaid : Prop := flowNestedUptoRow.holds Tryd.pinned (OpenSpec.upto flowNestedSpec)

/-- 'tappetlaw07.FlowEnds', WHERE WHAT IT READS IS OF BULK AT MOST 1048576: true; the input reads as it did. -/
def flowEndsUptoRow : OpenClaim := { program := "ytjhmkpklhajpcaadoor", sum := "7d9a0717ac26c75548e3b51f0105789c5e0b5fbd930c1bb7aabf85b7d5346560", func := "tappet/tappetlaw07.FlowEnds", spec := "flowEnds", recurses := true, named := ["tappet/ops.forms"], apart := false, laid := [("tappet/ops.forms", laid_tappet_ops_forms)], narrowed := true }
def FlowEndsUptoSaid : Prop := flowEndsUptoRow.holds Tryd.pinned (OpenSpec.upto flowEndsSpec)

/-- 'tappetlaw07.FlowNexts', WHERE WHAT IT READS IS OF BULK AT MOST 1048576: true; the input reads as it did. -/
def flowNextsUptoRow : OpenClaim := { program := "ytjhmkpklhajpcaadoor", sum := "7d9a0717ac26c75548e3b51f0105789c5e0b5fbd930c1bb7aabf85b7d5346560", func := "tappet/tappetlaw07.FlowNexts", spec := "flowNexts", recurses := true, named := ["tappet/ops.forms"], apart := false, laid := [("tappet/ops.forms", laid_tappet_ops_forms)], narrowed := true }
def FlowNextsUptoSaid : Prop := flowNextsUptoRow.holds Tryd.pinned (OpenSpec.upto flowNextsSpec)

end Rows
end Go.Proofs.YtjhmkpklhajpcaaDoor
