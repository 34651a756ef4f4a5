/- The maps of a config: the program's and the document's do the same. -/
import Derived.Test.YtpchniebplpboaaKLru2
import Derived.Test.YtpchniebplpboaaKFirst
set_option linter.unusedVariables false
set_option linter.unusedSimpArgs false
namespace Go.Proofs.Ytpchniebplpboaa
open Go.Sx

def SR (n : Nat) (x : I_cmap_Shard) (s : tappetref15_Shard) : Prop := match x with
  | .inl b => ∃ c r, s = ⟨some r, none⟩ ∧ BR c b r
  | .inr a => ∃ c r, s = ⟨none, some r⟩ ∧ LR n c a r
structure MR (n : Nat) (m : cmap_Map) (r : tappetref15_Map) : Prop where
  len : m.shards.length = r.S.length
  l1 : 1 ≤ r.S.length
  l4 : r.S.length ≤ 4
  sr : ∀ (i : Nat) x s, m.shards[i]? = some x → r.S[i]? = some s → SR n x s
structure MRs (n : Nat) (ms : List cmap_Map) (rs : List tappetref15_Map) : Prop where
  len : ms.length = rs.length
  l4 : rs.length ≤ 4
  mr : ∀ (i : Nat) m r, ms[i]? = some m → rs[i]? = some r → MR n m r
end Go.Proofs.Ytpchniebplpboaa
