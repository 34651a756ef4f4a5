/- EngineEnds' plain law, in the form that the joining text wants. -/
import Derived.Test.YtgmmfjpmahcocaaGreatDoorKEnds
import Derived.Test.YtgmmfjpmahcocaaGreatDoorD1
namespace Go.Proofs.YtgmmfjpmahcocaaGreatDoor
open Go.Sx
theorem lit_u64 {n : Int} (h : (Lit.int .u64 n).wf = true) : u64 n := by
  simp only [Lit.wf, Bool.and_eq_true, decide_eq_true_eq] at h
  exact ⟨h.1, Int.lt_of_le_of_lt h.2 (by decide)⟩
theorem engineEnds_true (p0 : tappetlaw11_Run) (g0 : G_tappetlaw11_Run p0) : ∃ fu, tappetlaw11_EngineEnds fu p0 = some true := by
  obtain ⟨gM, gE, gR, _⟩ := g0
  refine ⟨1000, engineEnds_law p0 ?_ ?_ ⟨lit_u64 gE.1, lit_u64 gE.2⟩ (fun r hr => lit_u64 (gR.2 r hr).2.2.1) ?_⟩
  · have := gM.1.1; simp only [reachBytes] at this; omega
  · have := gM.2.1; simp only [reachBytes] at this; omega
  · have := gR.1; simp only [reachBytes] at this; omega
end Go.Proofs.YtgmmfjpmahcocaaGreatDoor
