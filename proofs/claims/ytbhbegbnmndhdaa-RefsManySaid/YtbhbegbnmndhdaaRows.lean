/-
  No cell of these rows narrows 'for every input' (looked for: loops, veiled, ifaces, maps, wideKeys, modest, calm, conditions, laid).
  DERIVED. THE GIVEN ROWS OF THIS SEAT. 2 by the template 'for every input the law returns true; each argument reads behind the call as it read before'; 0 by the template 'total and deterministic' (their statements: YtbhbegbnmndhdaaTotals.lean).
  GIVEN WITH THE SEED: the statements are not yours to turn. If you find one false, say at which input.
  Laid BY PROGRAM, IN A SANDBOX (cutbox-rows.mjs): the forced cells as the released guide's own fill.sh prints them over the translation 27402cb3ab874cbf… (all of the seat's roots in one cut). By AI agents, Wed Nov 11 2026. No macro, syntax, notation, axiom, sorry.
-/
import Derived.Test.YtbhbegbnmndhdaaChecked
import GoSem.Claim
import GoSem.ClaimJoined
import GoSem.ClaimMapViews
import Derived.JoinedTies
import Derived.KernelRfl
namespace Go.Proofs.Ytbhbegbnmndhdaa
/- THE CELL 'sum', in the pinned program and in every row, IS THE sha256 OF THE DUMP (.gsa) THAT YtbhbegbnmndhdaaProg.lean LOADS. Nothing in Lean hashes anything: it is a label: what it is worth is what the hold of that sum in a sandbox is worth. -/
noncomputable def Try.pinned : Pinned := { name := "ytbhbegbnmndhdaa", sum := "27402cb3ab874cbf2a436e32a66ce1a200a7e75aa01ad3cf58d385a77e8fb57c", checked := Try.checked }
namespace Rows
def none {H : Type} : Left H := { results := [], args := [] }

/-- 'tappetlaw18.RefsOnce': WHATEVER THE INPUT: true; the input reads as it did. -/
def refsOnceSpec : ChangeSpec := { name := "refsOnce", fn := fun _ => fun
  | [d1, d2, d3] => { results := [.lit (.bool true)], args := [d1, d2, d3] }
  | _ => none }
def refsOnceRow : OpenClaim := { program := "ytbhbegbnmndhdaa", sum := "27402cb3ab874cbf2a436e32a66ce1a200a7e75aa01ad3cf58d385a77e8fb57c", func := "tappet/tappetlaw18.RefsOnce", spec := "refsOnce", recurses := true, apart := false }
def RefsOnceSaid : Prop := refsOnceRow.holds Try.pinned (OpenSpec.ofChange refsOnceSpec)

/-- ITS FALSE NEIGHBOUR: 'it returns false'. Refute it at one input. -/
def refsOnceWrong : ChangeSpec := { name := "refsOnce", fn := fun _ => fun
  | [d1, d2, d3] => { results := [.lit (.bool false)], args := [d1, d2, d3] }
  | _ => none }
def RefsOnceWrongFalsely : Prop := refsOnceRow.holds Try.pinned (OpenSpec.ofChange refsOnceWrong)

/-- 'tappetlaw18.RefsMany': WHATEVER THE INPUT: true; the input reads as it did. -/
def refsManySpec : ChangeSpec := { name := "refsMany", fn := fun _ => fun
  | [d1, d2] => { results := [.lit (.bool true)], args := [d1, d2] }
  | _ => none }
def refsManyRow : OpenClaim := { program := "ytbhbegbnmndhdaa", sum := "27402cb3ab874cbf2a436e32a66ce1a200a7e75aa01ad3cf58d385a77e8fb57c", func := "tappet/tappetlaw18.RefsMany", spec := "refsMany", recurses := true, apart := false }
def RefsManySaid : Prop := refsManyRow.holds Try.pinned (OpenSpec.ofChange refsManySpec)

/-- ITS FALSE NEIGHBOUR: 'it returns false'. Refute it at one input. -/
def refsManyWrong : ChangeSpec := { name := "refsMany", fn := fun _ => fun
  | [d1, d2] => { results := [.lit (.bool false)], args := [d1, d2] }
  | _ => none }
def RefsManyWrongFalsely : Prop := refsManyRow.holds Try.pinned (OpenSpec.ofChange refsManyWrong)

/- THE SECOND FORM. 'bulk': how many values and letters a reading holds, each counted each time it is reached (what is shared counts as often as it is met; a slice's spare places count too). A statement '..UptoSaid' is the law's where the arguments, and the package variables that the reading takes, are together of bulk at most 1048576: NARROWER than '..Said'. Prove '..Said' where nothing that the law and all that it calls make is longer than what came in: it says more and counts as full. Else prove '..UptoSaid'. A law counts once. -/
mutual
def uptoBulk {H : Type} : DataW H → Nat
  | .lit (.string bytes) => bytes.length + 1
  | .lit _ => 1
  | .nil => 1
  | .ptr d => uptoBulk d + 1
  | .slice elems spare => uptoBulkAll elems + uptoBulkAll spare + 1
  | .agg parts => uptoBulkAll parts + 1
  | .iface _ d => uptoBulk d + 1
  | .map entries => uptoBulkEntries entries + 1
  | .held _ => 1
def uptoBulkAll {H : Type} : List (DataW H) → Nat
  | [] => 0
  | d :: r => uptoBulk d + uptoBulkAll r
def uptoBulkEntries {H : Type} : List (Lit × DataW H) → Nat
  | [] => 0
  | x :: r => uptoBulkEntry x + uptoBulkEntries r
def uptoBulkEntry {H : Type} : Lit × DataW H → Nat
  | (.string bytes, d) => bytes.length + uptoBulk d + 1
  | (_, d) => uptoBulk d + 1
 end
def uptoSmall : (H : Type) → List (DataW H) → Bool := fun _ ds => decide (uptoBulkAll ds ≤ 1048576)
def OpenSpec.upto (s : _root_.Go.ChangeSpec) : _root_.Go.OpenSpec := { _root_.Go.OpenSpec.ofChange s with cond := some uptoSmall }

/-- 'tappetlaw18.RefsOnce', WHERE WHAT IT READS IS OF BULK AT MOST 1048576: true; the input reads as it did. -/
def refsOnceUptoRow : OpenClaim := { program := "ytbhbegbnmndhdaa", sum := "27402cb3ab874cbf2a436e32a66ce1a200a7e75aa01ad3cf58d385a77e8fb57c", func := "tappet/tappetlaw18.RefsOnce", spec := "refsOnce", recurses := true, apart := false, narrowed := true }
def RefsOnceUptoSaid : Prop := refsOnceUptoRow.holds Try.pinned (OpenSpec.upto refsOnceSpec)

/-- 'tappetlaw18.RefsMany', WHERE WHAT IT READS IS OF BULK AT MOST 1048576: true; the input reads as it did. -/
def refsManyUptoRow : OpenClaim := { program := "ytbhbegbnmndhdaa", sum := "27402cb3ab874cbf2a436e32a66ce1a200a7e75aa01ad3cf58d385a77e8fb57c", func := "tappet/tappetlaw18.RefsMany", spec := "refsMany", recurses := true, apart := false, narrowed := true }
def RefsManyUptoSaid : Prop := refsManyUptoRow.holds Try.pinned (OpenSpec.upto refsManySpec)

end Rows
end Go.Proofs.Ytbhbegbnmndhdaa
