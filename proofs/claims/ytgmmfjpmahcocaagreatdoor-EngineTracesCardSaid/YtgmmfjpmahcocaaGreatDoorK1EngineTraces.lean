import Derived.Test.YtgmmfjpmahcocaaGreatDoorKTr4
import Derived.Test.YtgmmfjpmahcocaaGreatDoorD1
set_option linter.unusedSimpArgs false
set_option linter.unusedVariables false
namespace Go.Proofs.YtgmmfjpmahcocaaGreatDoor
open Go.Sx
theorem zit {n : Int} (h : (Lit.int .u64 n).wf = true) : u64 n := by
 simp only [Lit.wf, zae, zdq] at h
 exact ⟨h.1, Int.lt_of_le_of_lt h.2 (by decide)⟩
theorem zfI (p0 : qG) (g0 : zcF p0) : ∃ fu, xc fu p0 = some true := by
 obtain ⟨gM, gE, gR, _⟩ := g0
 refine ⟨1000, zf1 p0 ?_ ?_ ⟨zit gE.1, zit gE.2⟩ (fun r hr => zit (gR.2 r hr).2.2.1) ?_⟩
 ·have := gM.1.1; simp only [reachBytes] at this; omega
 ·have := gM.2.1; simp only [reachBytes] at this; omega
 ·have := gR.1; simp only [reachBytes] at this; omega
end Go.Proofs.YtgmmfjpmahcocaaGreatDoor
