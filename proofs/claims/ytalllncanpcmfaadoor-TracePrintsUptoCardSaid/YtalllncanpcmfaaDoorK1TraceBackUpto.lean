/- TraceBack's plain law where what is read is of a bounded bulk, in the form that the joining text wants. -/
import Derived.Test.YtalllncanpcmfaaDoorKBack
import Derived.Test.YtalllncanpcmfaaDoorD1
set_option linter.unusedVariables false
namespace Go.Proofs.YtalllncanpcmfaaDoor
open Go.Sx
theorem wf_i {n : Int} (h : (Lit.int .i64 n).wf = true) : i64 n := by
  simp only [Lit.wf, Bool.and_eq_true, decide_eq_true_eq] at h
  have h1 : IntKind.i64.min = -9223372036854775808 := rfl
  have h2 : IntKind.i64.max = 9223372036854775807 := rfl
  exact ⟨by omega, by omega⟩
theorem wf_u {n : Int} (h : (Lit.int .u64 n).wf = true) : u64 n := by
  simp only [Lit.wf, Bool.and_eq_true, decide_eq_true_eq] at h
  have h1 : IntKind.u64.min = 0 := rfl
  have h2 : IntKind.u64.max = 18446744073709551615 := rfl
  exact ⟨by omega, by omega⟩
theorem wf_entry {x : api_Entry} (h : G_api_Entry x) : wfE x := by
  obtain ⟨a0, a1, a2, a3, a4, a5, a6, a7, a8, a9, ⟨b0, b1, b2, b3⟩, ⟨c0, _, c2, _, c4, c5⟩, d0, d1⟩ := h
  exact ⟨wf_i a0, wf_i a1, wf_i a2, wf_i a3, wf_i a4, wf_i a5, wf_i a6, wf_i a7, wf_i a8, wf_i a9, wf_i b0, wf_i b1, wf_u b2, wf_u b3, wf_i c0, wf_u c2, wf_u c4, wf_u c5, wf_u d0, wf_i d1⟩
theorem traceBackUpto_true (p0 : List api_Entry) (p1 : ByteArray) (g0 : p0.length * 176 ≤ reachBytes ∧ ∀ y23 ∈ p0, G_api_Entry y23) (g1 : p1.size ≤ reachBytes) (b0 : p0.length ≤ 1048575) (b1 : p1.size ≤ 1048575) : ∃ fu, tappetlaw26_TraceBack fu p0 p1 = some true :=
  ⟨p0.length + p1.size + 1000, traceBack_law p0 p1 (by omega) (fun x hx => wf_entry (g0.2 x hx)) b1⟩
end Go.Proofs.YtalllncanpcmfaaDoor
