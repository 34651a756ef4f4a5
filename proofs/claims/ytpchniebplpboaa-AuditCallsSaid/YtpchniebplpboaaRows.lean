/-
  No cell of these rows narrows 'for every input' (looked for: loops, veiled, ifaces, maps, wideKeys, modest, calm, conditions, laid).
  DERIVED. THE GIVEN ROWS OF THIS SEAT. 3 by the template 'for every input the law returns true; each argument reads behind the call as it read before'; 0 by the template 'total and deterministic' (their statements: YtpchniebplpboaaTotals.lean).
  GIVEN WITH THE SEED: the statements are not yours to turn. If you find one false, say at which input.
  Laid BY PROGRAM, IN A SANDBOX (cutbox-rows.mjs): the forced cells as the released guide's own fill.sh prints them over the translation bd02d000f69a8255… (all of the seat's roots in one cut). By AI agents, Wed Nov 11 2026. No macro, syntax, notation, axiom, sorry.
-/
import Derived.Test.YtpchniebplpboaaChecked
import GoSem.Claim
import GoSem.ClaimJoined
import GoSem.ClaimMapViews
import Derived.JoinedTies
import Derived.KernelRfl
namespace Go.Proofs.Ytpchniebplpboaa
/- THE CELL 'sum', in the pinned program and in every row, IS THE sha256 OF THE DUMP (.gsa) THAT YtpchniebplpboaaProg.lean LOADS. Nothing in Lean hashes anything: it is a label: what it is worth is what the hold of that sum in a sandbox is worth. -/
noncomputable def Try.pinned : Pinned := { name := "ytpchniebplpboaa", sum := "bd02d000f69a8255f8b8f9608bbea3cf842a479e9f932fa39c831dded545b009", checked := Try.checked }
namespace Rows
def none {H : Type} : Left H := { results := [], args := [] }

/-- 'tappetlaw27.AuditMaps': WHATEVER THE INPUT: true; the input reads as it did. -/
def auditMapsSpec : ChangeSpec := { name := "auditMaps", fn := fun _ => fun
  | [d1, d2] => { results := [.lit (.bool true)], args := [d1, d2] }
  | _ => none }
def auditMapsRow : OpenClaim := { program := "ytpchniebplpboaa", sum := "bd02d000f69a8255f8b8f9608bbea3cf842a479e9f932fa39c831dded545b009", func := "tappet/tappetlaw27.AuditMaps", spec := "auditMaps", unfollowed := true, recurses := true, apart := false }
def AuditMapsSaid : Prop := auditMapsRow.holds Try.pinned (OpenSpec.ofChange auditMapsSpec)

/-- ITS FALSE NEIGHBOUR: 'it returns false'. Refute it at one input. -/
def auditMapsWrong : ChangeSpec := { name := "auditMaps", fn := fun _ => fun
  | [d1, d2] => { results := [.lit (.bool false)], args := [d1, d2] }
  | _ => none }
def AuditMapsWrongFalsely : Prop := auditMapsRow.holds Try.pinned (OpenSpec.ofChange auditMapsWrong)

/-- 'tappetlaw27.AuditCalls': WHATEVER THE INPUT: true; the input reads as it did. -/
def auditCallsSpec : ChangeSpec := { name := "auditCalls", fn := fun _ => fun
  | [d1, d2] => { results := [.lit (.bool true)], args := [d1, d2] }
  | _ => none }
def auditCallsRow : OpenClaim := { program := "ytpchniebplpboaa", sum := "bd02d000f69a8255f8b8f9608bbea3cf842a479e9f932fa39c831dded545b009", func := "tappet/tappetlaw27.AuditCalls", spec := "auditCalls", unfollowed := true, recurses := true, apart := false }
def AuditCallsSaid : Prop := auditCallsRow.holds Try.pinned (OpenSpec.ofChange auditCallsSpec)

/-- ITS FALSE NEIGHBOUR: 'it returns false'. Refute it at one input. -/
def auditCallsWrong : ChangeSpec := { name := "auditCalls", fn := fun _ => fun
  | [d1, d2] => { results := [.lit (.bool false)], args := [d1, d2] }
  | _ => none }
def AuditCallsWrongFalsely : Prop := auditCallsRow.holds Try.pinned (OpenSpec.ofChange auditCallsWrong)

/-- 'tappetlaw27.AuditLeast': WHATEVER THE INPUT: true; the input reads as it did. -/
def auditLeastSpec : ChangeSpec := { name := "auditLeast", fn := fun _ => fun
  | [d1, d2] => { results := [.lit (.bool true)], args := [d1, d2] }
  | _ => none }
def auditLeastRow : OpenClaim := { program := "ytpchniebplpboaa", sum := "bd02d000f69a8255f8b8f9608bbea3cf842a479e9f932fa39c831dded545b009", func := "tappet/tappetlaw27.AuditLeast", spec := "auditLeast", unfollowed := true, recurses := true, apart := false }
def AuditLeastSaid : Prop := auditLeastRow.holds Try.pinned (OpenSpec.ofChange auditLeastSpec)

/-- ITS FALSE NEIGHBOUR: 'it returns false'. Refute it at one input. -/
def auditLeastWrong : ChangeSpec := { name := "auditLeast", fn := fun _ => fun
  | [d1, d2] => { results := [.lit (.bool false)], args := [d1, d2] }
  | _ => none }
def AuditLeastWrongFalsely : Prop := auditLeastRow.holds Try.pinned (OpenSpec.ofChange auditLeastWrong)

/- THE SECOND FORM. 'bulk': how many values and letters a reading holds, each counted each time it is reached (what is shared counts as often as it is met; a slice's spare places count too). A statement '..UptoSaid' is the law's where the arguments, and the package variables that the reading takes, are together of bulk at most 1048576: NARROWER than '..Said'. Prove '..Said' where nothing that the law and all that it calls make is longer than what came in: it says more and counts as full. Else prove '..UptoSaid'. A law counts once. -/
mutual
def uptoBulk {H : Type} : DataW H → Nat
  | .lit (.string bytes) => bytes.length + 1
  | .lit _ => 1
  | .nil => 1
  | .ptr d => uptoBulk d + 1
  | .slice elems spare => uptoBulkAll elems + uptoBulkAll spare + 1
  | .agg parts => uptoBulkAll parts + 1
  | .iface _ d => uptoBulk d + 1
  | .map entries => uptoBulkEntries entries + 1
  | .held _ => 1
def uptoBulkAll {H : Type} : List (DataW H) → Nat
  | [] => 0
  | d :: r => uptoBulk d + uptoBulkAll r
def uptoBulkEntries {H : Type} : List (Lit × DataW H) → Nat
  | [] => 0
  | x :: r => uptoBulkEntry x + uptoBulkEntries r
def uptoBulkEntry {H : Type} : Lit × DataW H → Nat
  | (.string bytes, d) => bytes.length + uptoBulk d + 1
  | (_, d) => uptoBulk d + 1
 end
def uptoSmall : (H : Type) → List (DataW H) → Bool := fun _ ds => decide (uptoBulkAll ds ≤ 1048576)
def OpenSpec.upto (s : _root_.Go.ChangeSpec) : _root_.Go.OpenSpec := { _root_.Go.OpenSpec.ofChange s with cond := some uptoSmall }

/-- 'tappetlaw27.AuditMaps', WHERE WHAT IT READS IS OF BULK AT MOST 1048576: true; the input reads as it did. -/
def auditMapsUptoRow : OpenClaim := { program := "ytpchniebplpboaa", sum := "bd02d000f69a8255f8b8f9608bbea3cf842a479e9f932fa39c831dded545b009", func := "tappet/tappetlaw27.AuditMaps", spec := "auditMaps", unfollowed := true, recurses := true, apart := false, narrowed := true }
def AuditMapsUptoSaid : Prop := auditMapsUptoRow.holds Try.pinned (OpenSpec.upto auditMapsSpec)

/-- 'tappetlaw27.AuditCalls', WHERE WHAT IT READS IS OF BULK AT MOST 1048576: true; the input reads as it did. -/
def auditCallsUptoRow : OpenClaim := { program := "ytpchniebplpboaa", sum := "bd02d000f69a8255f8b8f9608bbea3cf842a479e9f932fa39c831dded545b009", func := "tappet/tappetlaw27.AuditCalls", spec := "auditCalls", unfollowed := true, recurses := true, apart := false, narrowed := true }
def AuditCallsUptoSaid : Prop := auditCallsUptoRow.holds Try.pinned (OpenSpec.upto auditCallsSpec)

/-- 'tappetlaw27.AuditLeast', WHERE WHAT IT READS IS OF BULK AT MOST 1048576: true; the input reads as it did. -/
def auditLeastUptoRow : OpenClaim := { program := "ytpchniebplpboaa", sum := "bd02d000f69a8255f8b8f9608bbea3cf842a479e9f932fa39c831dded545b009", func := "tappet/tappetlaw27.AuditLeast", spec := "auditLeast", unfollowed := true, recurses := true, apart := false, narrowed := true }
def AuditLeastUptoSaid : Prop := auditLeastUptoRow.holds Try.pinned (OpenSpec.upto auditLeastSpec)

end Rows
end Go.Proofs.Ytpchniebplpboaa
