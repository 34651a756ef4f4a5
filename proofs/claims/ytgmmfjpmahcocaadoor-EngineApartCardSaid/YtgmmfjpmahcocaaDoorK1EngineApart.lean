/- EngineApart's plain law, in the form that the joining text wants. -/
import Derived.Test.YtgmmfjpmahcocaaDoorKApart
import Derived.Test.YtgmmfjpmahcocaaDoorD1
namespace Go.Proofs.YtgmmfjpmahcocaaDoor
open Go.Sx
theorem lit_u64' {n : Int} (h : (Lit.int .u64 n).wf = true) : u64 n := by
  simp only [Lit.wf, Bool.and_eq_true, decide_eq_true_eq] at h
  exact ⟨h.1, Int.lt_of_le_of_lt h.2 (by decide)⟩
theorem engineApart_true (p0 : tappetlaw11_Run) (p1 : tappetlaw11_Run) (g0 : G_tappetlaw11_Run p0) (g1 : G_tappetlaw11_Run p1) : ∃ fu, tappetlaw11_EngineApart fu p0 p1 = some true := by
  obtain ⟨gM, gE, gR, _⟩ := g0
  obtain ⟨hM, hE, hR, _⟩ := g1
  refine ⟨1000, engineApart_law p0 p1 ?_ ?_ ?_ ?_ ⟨lit_u64' gE.1, lit_u64' gE.2⟩ ⟨lit_u64' hE.1, lit_u64' hE.2⟩⟩
  · have := gM.1.1; simp only [reachBytes] at this; omega
  · have := gM.2.1; simp only [reachBytes] at this; omega
  · have := hM.1.1; simp only [reachBytes] at this; omega
  · have := hM.2.1; simp only [reachBytes] at this; omega
end Go.Proofs.YtgmmfjpmahcocaaDoor
