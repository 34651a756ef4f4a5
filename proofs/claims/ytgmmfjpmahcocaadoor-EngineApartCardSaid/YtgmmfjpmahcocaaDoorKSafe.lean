/- EngineSafe: what the judge knows at each place is so, and the cost bounds the steps. -/
import Derived.Test.YtgmmfjpmahcocaaDoorKEng
set_option linter.unusedVariables false
set_option linter.unusedSimpArgs false
namespace Go.Proofs.YtgmmfjpmahcocaaDoor
open Go.Sx

theorem awake_ok : tappetlaw11_awake 1000 = some true := by decide +kernel
theorem WT.most {n : Nat} {x : api_Type} (h : WT n x) (hn : n ≤ 4) : WT 4 x := by
  rcases h with h | h | h
  · exact .inl h
  · exact .inr (.inl h)
  · exact .inr (.inr ⟨h.1, h.2.1, h.2.2.1, by have := h.2.2.2; omega⟩)
end Go.Proofs.YtgmmfjpmahcocaaDoor
