/- A bounded map: the program keeps the keys by their last touch, the document their times. -/
import Derived.Test.YtpchniebplpboaaKBook2
set_option linter.unusedVariables false
set_option linter.unusedSimpArgs false
namespace Go.Proofs.Ytpchniebplpboaa
open Go.Sx

structure KS (n : Nat) (o ks ws : List Int) (clk : Int) : Prop where
  order : o = ks.reverse
  wl : ws.length = ks.length
  inc : ws.Pairwise (· < ·)
  late : ∀ w ∈ ws, w ≤ clk
  c0 : 0 ≤ clk
  cn : clk ≤ n
  nd : ks.Nodup
structure LR (n : Nat) (c : Int) (a : lru_LRU) (r : tappetref14_LRU) : Prop where
  book : BR c a.Book r.B
  ks : KS n a.order r.Keys r.When r.Clock
  keys : ∀ q, q ∈ r.Keys ↔ (pv r.B.List q).isSome = true
theorem LR.len {n : Nat} {c : Int} {a : lru_LRU} {r : tappetref14_LRU} (h : LR n c a r) : r.Keys.length = r.B.List.length := by
  have hp : r.Keys.Perm (pk r.B.List) := by
    refine (List.perm_ext_iff_of_nodup h.ks.nd h.book.rb.nd).2 (fun q => ?_)
    rw [h.keys]
    constructor
    · intro hs
      refine Classical.byContradiction (fun hn => ?_)
      rw [pv_none.2 hn] at hs; cases hs
    · intro hm
      cases hv : pv r.B.List q with
      | some x => rfl
      | none => exact absurd hm (pv_none.1 hv)
  have := hp.length_eq
  simpa [pk] using this
end Go.Proofs.Ytpchniebplpboaa
