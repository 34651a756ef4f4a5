/- THE STATEMENT WorkerApartCardSaid IS PROVED (the tied card): for every input the law returns true, and what was there before the call is as it was. The listed tables read as the program's text lays them; the card ties that to the text. -/
import Derived.Test.YtbmknhpfkpmigaaGreatDoorL1WorkerApartb
set_option linter.unusedVariables false
set_option linter.unusedSimpArgs false
namespace Go.Proofs.YtbmknhpfkpmigaaGreatDoor
open Go.Sx Go.ChangeShapes Go.WideShapes Go.ChangeAt Go.RowKit
theorem zgk : Rows.WorkerApartSaid :=
 OpenClaim.holds_of_cond 4 Tryz.f4 rfl rfl rfl rfl rfl rfl rfl ⟨rfl, rfl, rfl, rfl, rfl⟩ rfl rfl rfl rfl rfl (by kernel_rfl) Tryz.func4 zfK
  (of_decide_eq_true (by kernel_rfl)) (by unfold Func.isWrapper; first | (rw [if_pos (by decide +kernel)]; kernel_rfl) | (rw [if_neg (by decide +kernel)]; exact ⟨rfl, rfl⟩))
  (fun os started H enc _ F => by rw [OpenClaim.pre_eq_preRow]; exact zfJ os started H enc F)
theorem zf2 (f : FuncId) (fn : Func) (hf : Tryz.pinned.checked.prog.funcNamed "tappet/tappetlaw23.WorkerApart" = some f) (hfn : Tryz.pinned.checked.prog.funcs[f]? = some fn) :
  false = Tryz.pinned.checked.prog.looks [] /\ ∀ (j : Nat) t, fn.params[j]? = some t -> Tryz.pinned.checked.prog.wantsStandIn t = false := by
 obtain rfl : f = 4 := Option.some.inj ((show Tryz.prog.funcNamed "tappet/tappetlaw23.WorkerApart" = some 4 by kernel_rfl).symm.trans hf) |>.symm
 obtain rfl : fn = Tryz.f4 := (Option.some.inj (Tryz.func4.symm.trans hfn)).symm
 refine ⟨by kernel_rfl, fun j t ht => ?_⟩
 have ht2 : t ∈ Tryz.f4.params := Array.mem_of_getElem? ht
 rw [Tryz.params4] at ht2
 simp only [List.mem_toArray, List.mem_cons, List.not_mem_nil, or_false] at ht2
 rcases ht2 with rfl | rfl
 ·exact (show Tryz.prog.wantsStandIn 22 = false by kernel_rfl)
 ·exact (show Tryz.prog.wantsStandIn 22 = false by kernel_rfl)
theorem workerApartCard_holds : Rows.WorkerApartCardSaid :=
 Claim7.holds_tied_plain_at .later [] _ _ _ _ zgk (fun _ h => by cases h) (by kernel_rfl) (fun _ h => by cases h) workerApart_row_tie rfl ⟨rfl, rfl⟩ (by kernel_rfl) rfl zf2 (by kernel_rfl)
#print axioms workerApartCard_holds
end Go.Proofs.YtbmknhpfkpmigaaGreatDoor
