/-
  No cell of these rows narrows 'for every input' (looked for: loops, veiled, ifaces, maps, wideKeys, modest, calm, conditions, laid).
  DERIVED. THE GIVEN ROWS OF THIS SEAT. 4 by the template 'for every input the law returns true; each argument reads behind the call as it read before'; 0 by the template 'total and deterministic' (their statements: YthljmgepekhchaaTotals.lean).
  GIVEN WITH THE SEED: the statements are not yours to turn. If you find one false, say at which input.
  Laid BY PROGRAM, IN A SANDBOX (cutbox-rows.mjs): the forced cells as the released guide's own fill.sh prints them over the translation 6162b59b94e0f33f… (all of the seat's roots in one cut). By AI agents, Wed Nov 11 2026. No macro, syntax, notation, axiom, sorry.
-/
import Derived.Test.YthljmgepekhchaaChecked
import GoSem.Claim
import GoSem.ClaimJoined
import GoSem.ClaimMapViews
import Derived.JoinedTies
import Derived.KernelRfl
namespace Go.Proofs.Ythljmgepekhchaa
/- THE CELL 'sum', in the pinned program and in every row, IS THE sha256 OF THE DUMP (.gsa) THAT YthljmgepekhchaaProg.lean LOADS. Nothing in Lean hashes anything: it is a label: what it is worth is what the hold of that sum in a sandbox is worth. -/
noncomputable def Try.pinned : Pinned := { name := "ythljmgepekhchaa", sum := "6162b59b94e0f33fb5070ad2c5a1e2d876866e0facfdb28e4b30fe750bd6fc9d", checked := Try.checked }
namespace Rows
def none {H : Type} : Left H := { results := [], args := [] }

/-- 'tappetlaw21.KernFair': WHATEVER THE INPUT: true; the input reads as it did. -/
def kernFairSpec : ChangeSpec := { name := "kernFair", fn := fun _ => fun
  | [d1, d2, d3] => { results := [.lit (.bool true)], args := [d1, d2, d3] }
  | _ => none }
def kernFairRow : OpenClaim := { program := "ythljmgepekhchaa", sum := "6162b59b94e0f33fb5070ad2c5a1e2d876866e0facfdb28e4b30fe750bd6fc9d", func := "tappet/tappetlaw21.KernFair", spec := "kernFair", apart := false }
def KernFairSaid : Prop := kernFairRow.holds Try.pinned (OpenSpec.ofChange kernFairSpec)

/-- ITS FALSE NEIGHBOUR: 'it returns false'. Refute it at one input. -/
def kernFairWrong : ChangeSpec := { name := "kernFair", fn := fun _ => fun
  | [d1, d2, d3] => { results := [.lit (.bool false)], args := [d1, d2, d3] }
  | _ => none }
def KernFairWrongFalsely : Prop := kernFairRow.holds Try.pinned (OpenSpec.ofChange kernFairWrong)

/-- 'tappetlaw21.KernPicks': WHATEVER THE INPUT: true; the input reads as it did. -/
def kernPicksSpec : ChangeSpec := { name := "kernPicks", fn := fun _ => fun
  | [d1, d2, d3] => { results := [.lit (.bool true)], args := [d1, d2, d3] }
  | _ => none }
def kernPicksRow : OpenClaim := { program := "ythljmgepekhchaa", sum := "6162b59b94e0f33fb5070ad2c5a1e2d876866e0facfdb28e4b30fe750bd6fc9d", func := "tappet/tappetlaw21.KernPicks", spec := "kernPicks", apart := false }
def KernPicksSaid : Prop := kernPicksRow.holds Try.pinned (OpenSpec.ofChange kernPicksSpec)

/-- ITS FALSE NEIGHBOUR: 'it returns false'. Refute it at one input. -/
def kernPicksWrong : ChangeSpec := { name := "kernPicks", fn := fun _ => fun
  | [d1, d2, d3] => { results := [.lit (.bool false)], args := [d1, d2, d3] }
  | _ => none }
def KernPicksWrongFalsely : Prop := kernPicksRow.holds Try.pinned (OpenSpec.ofChange kernPicksWrong)

/-- 'tappetlaw21.KernAgain': WHATEVER THE INPUT: true; the input reads as it did. -/
def kernAgainSpec : ChangeSpec := { name := "kernAgain", fn := fun _ => fun
  | [d1, d2, d3] => { results := [.lit (.bool true)], args := [d1, d2, d3] }
  | _ => none }
def kernAgainRow : OpenClaim := { program := "ythljmgepekhchaa", sum := "6162b59b94e0f33fb5070ad2c5a1e2d876866e0facfdb28e4b30fe750bd6fc9d", func := "tappet/tappetlaw21.KernAgain", spec := "kernAgain", apart := false }
def KernAgainSaid : Prop := kernAgainRow.holds Try.pinned (OpenSpec.ofChange kernAgainSpec)

/-- ITS FALSE NEIGHBOUR: 'it returns false'. Refute it at one input. -/
def kernAgainWrong : ChangeSpec := { name := "kernAgain", fn := fun _ => fun
  | [d1, d2, d3] => { results := [.lit (.bool false)], args := [d1, d2, d3] }
  | _ => none }
def KernAgainWrongFalsely : Prop := kernAgainRow.holds Try.pinned (OpenSpec.ofChange kernAgainWrong)

/-- 'tappetlaw21.KernPlays': WHATEVER THE INPUT: true; the input reads as it did. -/
def kernPlaysSpec : ChangeSpec := { name := "kernPlays", fn := fun _ => fun
  | [d1, d2] => { results := [.lit (.bool true)], args := [d1, d2] }
  | _ => none }
def kernPlaysRow : OpenClaim := { program := "ythljmgepekhchaa", sum := "6162b59b94e0f33fb5070ad2c5a1e2d876866e0facfdb28e4b30fe750bd6fc9d", func := "tappet/tappetlaw21.KernPlays", spec := "kernPlays", apart := false }
def KernPlaysSaid : Prop := kernPlaysRow.holds Try.pinned (OpenSpec.ofChange kernPlaysSpec)

/-- ITS FALSE NEIGHBOUR: 'it returns false'. Refute it at one input. -/
def kernPlaysWrong : ChangeSpec := { name := "kernPlays", fn := fun _ => fun
  | [d1, d2] => { results := [.lit (.bool false)], args := [d1, d2] }
  | _ => none }
def KernPlaysWrongFalsely : Prop := kernPlaysRow.holds Try.pinned (OpenSpec.ofChange kernPlaysWrong)

/- THE SECOND FORM. 'bulk': how many values and letters a reading holds, each counted each time it is reached (what is shared counts as often as it is met; a slice's spare places count too). A statement '..UptoSaid' is the law's where the arguments, and the package variables that the reading takes, are together of bulk at most 1048576: NARROWER than '..Said'. Prove '..Said' where nothing that the law and all that it calls make is longer than what came in: it says more and counts as full. Else prove '..UptoSaid'. A law counts once. -/
mutual
def uptoBulk {H : Type} : DataW H → Nat
  | .lit (.string bytes) => bytes.length + 1
  | .lit _ => 1
  | .nil => 1
  | .ptr d => uptoBulk d + 1
  | .slice elems spare => uptoBulkAll elems + uptoBulkAll spare + 1
  | .agg parts => uptoBulkAll parts + 1
  | .iface _ d => uptoBulk d + 1
  | .map entries => uptoBulkEntries entries + 1
  | .held _ => 1
def uptoBulkAll {H : Type} : List (DataW H) → Nat
  | [] => 0
  | d :: r => uptoBulk d + uptoBulkAll r
def uptoBulkEntries {H : Type} : List (Lit × DataW H) → Nat
  | [] => 0
  | x :: r => uptoBulkEntry x + uptoBulkEntries r
def uptoBulkEntry {H : Type} : Lit × DataW H → Nat
  | (.string bytes, d) => bytes.length + uptoBulk d + 1
  | (_, d) => uptoBulk d + 1
 end
def uptoSmall : (H : Type) → List (DataW H) → Bool := fun _ ds => decide (uptoBulkAll ds ≤ 1048576)
def OpenSpec.upto (s : _root_.Go.ChangeSpec) : _root_.Go.OpenSpec := { _root_.Go.OpenSpec.ofChange s with cond := some uptoSmall }

/-- 'tappetlaw21.KernFair', WHERE WHAT IT READS IS OF BULK AT MOST 1048576: true; the input reads as it did. -/
def kernFairUptoRow : OpenClaim := { program := "ythljmgepekhchaa", sum := "6162b59b94e0f33fb5070ad2c5a1e2d876866e0facfdb28e4b30fe750bd6fc9d", func := "tappet/tappetlaw21.KernFair", spec := "kernFair", apart := false, narrowed := true }
def KernFairUptoSaid : Prop := kernFairUptoRow.holds Try.pinned (OpenSpec.upto kernFairSpec)

/-- 'tappetlaw21.KernPicks', WHERE WHAT IT READS IS OF BULK AT MOST 1048576: true; the input reads as it did. -/
def kernPicksUptoRow : OpenClaim := { program := "ythljmgepekhchaa", sum := "6162b59b94e0f33fb5070ad2c5a1e2d876866e0facfdb28e4b30fe750bd6fc9d", func := "tappet/tappetlaw21.KernPicks", spec := "kernPicks", apart := false, narrowed := true }
def KernPicksUptoSaid : Prop := kernPicksUptoRow.holds Try.pinned (OpenSpec.upto kernPicksSpec)

/-- 'tappetlaw21.KernAgain', WHERE WHAT IT READS IS OF BULK AT MOST 1048576: true; the input reads as it did. -/
def kernAgainUptoRow : OpenClaim := { program := "ythljmgepekhchaa", sum := "6162b59b94e0f33fb5070ad2c5a1e2d876866e0facfdb28e4b30fe750bd6fc9d", func := "tappet/tappetlaw21.KernAgain", spec := "kernAgain", apart := false, narrowed := true }
def KernAgainUptoSaid : Prop := kernAgainUptoRow.holds Try.pinned (OpenSpec.upto kernAgainSpec)

/-- 'tappetlaw21.KernPlays', WHERE WHAT IT READS IS OF BULK AT MOST 1048576: true; the input reads as it did. -/
def kernPlaysUptoRow : OpenClaim := { program := "ythljmgepekhchaa", sum := "6162b59b94e0f33fb5070ad2c5a1e2d876866e0facfdb28e4b30fe750bd6fc9d", func := "tappet/tappetlaw21.KernPlays", spec := "kernPlays", apart := false, narrowed := true }
def KernPlaysUptoSaid : Prop := kernPlaysUptoRow.holds Try.pinned (OpenSpec.upto kernPlaysSpec)

end Rows
end Go.Proofs.Ythljmgepekhchaa
