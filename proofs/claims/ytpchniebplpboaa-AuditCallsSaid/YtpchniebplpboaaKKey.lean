/- What a reading says of the entries; the cut; what the statements fix by examples. -/
import Derived.Test.YtpchniebplpboaaKMaps
import Derived.Test.YtpchniebplpboaaD1
set_option linter.unusedVariables false
set_option linter.unusedSimpArgs false
namespace Go.Proofs.Ytpchniebplpboaa
open Go.Sx

theorem cut_is (p1 : List api_Entry) : tappetlaw27_cut p1 = some (p1.take 1500) := by
  refine OK.is ?_
  unfold tappetlaw27_cut
  have hc : cut p1 0 (imin (p1.length : Int) 1500) = some (p1.take 1500) := by
    unfold imin cut
    by_cases h : (1500 : Int) < p1.length
    · rw [if_pos h, if_pos ⟨by omega, by omega, by omega⟩]; rfl
    · rw [if_neg h, if_pos ⟨by omega, by omega, by omega⟩]
      rw [Int.toNat_natCast, List.take_of_length_le (by omega), List.take_of_length_le (by omega)]; rfl
  rw [hc]
  simp only [Option.bind_some]
  refine OK.bind (OK.hasRoom ?_ (OK.ret rfl))
  simp only [List.length_nil, List.length_take]
  omega
set_option maxRecDepth 100000 in
theorem awake_is : tappetlaw27_awake 4000 = some true := by decide +kernel
end Go.Proofs.Ytpchniebplpboaa
