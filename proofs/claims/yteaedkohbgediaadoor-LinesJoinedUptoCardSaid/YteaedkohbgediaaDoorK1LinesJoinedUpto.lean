/- LinesJoined's plain law where what is read is of a bounded bulk, in the form that the joining text wants. -/
import Derived.Test.YteaedkohbgediaaDoorKBack
import Derived.Test.YteaedkohbgediaaDoorD1
namespace Go.Proofs.YteaedkohbgediaaDoor
open Go.Sx
theorem linesJoinedUpto_true (p0 : ByteArray) (p1 : ByteArray) (g0 : p0.size ≤ reachBytes) (g1 : p1.size ≤ reachBytes) (b0 : p0.size ≤ 1048575) (b1 : p1.size ≤ 1048575) : ∃ fu, tappetlaw03_LinesJoined fu p0 p1 = some true :=
  ⟨p0.size + p1.size + 1000, linesJoined_law p0 p1 b0 b1⟩
end Go.Proofs.YteaedkohbgediaaDoor
