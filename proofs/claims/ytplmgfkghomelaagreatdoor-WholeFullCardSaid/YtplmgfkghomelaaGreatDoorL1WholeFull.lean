/- THE STATEMENT WholeFullCardSaid IS PROVED (the tied card): for every input the law returns true, and what was there before the call is as it was. The listed tables read as the program's text lays them; the card ties that to the text. -/
import Derived.Test.YtplmgfkghomelaaGreatDoorL1WholeFullb
set_option linter.unusedVariables false
set_option linter.unusedSimpArgs false
namespace Go.Proofs.YtplmgfkghomelaaGreatDoor
open Go.Sx Go.ChangeShapes Go.WideShapes Go.ChangeAt Go.RowKit
theorem uw:Rows.WholeFullSaid:=
 OpenClaim.holds_of_cond 6 Tryz.f6 rfl rfl rfl rfl rfl rfl rfl ⟨rfl,rfl,rfl,rfl,rfl⟩ rfl rfl rfl rfl rfl (by kernel_rfl) Tryz.func6 rH
  (of_decide_eq_true (by kernel_rfl)) (by unfold Func.isWrapper;first|(rw [if_pos (by decide+kernel)];kernel_rfl)|(rw [if_neg (by decide+kernel)];exact ⟨rfl,rfl⟩))
  (λos started H enc _ F=>by rw [OpenClaim.pre_eq_preRow];exact rG os started H enc F)
theorem tH (f:FuncId) (fn:Func) (hf:Tryz.pinned.checked.prog.funcNamed "tappet/tappettop.WholeFull" =some f) (hfn:Tryz.pinned.checked.prog.funcs[f]? =some fn):
  false=Tryz.pinned.checked.prog.looks []/\∀(j:Nat) t,fn.params[j]? =some t->Tryz.pinned.checked.prog.wantsStandIn t=false:=by
 obtain rfl:f=6:=Option.some.inj ((show Tryz.prog.funcNamed "tappet/tappettop.WholeFull" =some 6 by kernel_rfl).symm.trans hf) |>.symm
 obtain rfl:fn=Tryz.f6:=(Option.some.inj (Tryz.func6.symm.trans hfn)).symm;refine ⟨by kernel_rfl,λj t ht=> ?_⟩;have ht2:t∈Tryz.f6.params:=Array.mem_of_getElem? ht;rw [Tryz.params6] at ht2;simp only [List.mem_toArray,List.mem_cons,List.not_mem_nil,or_false] at ht2;subst ht2;exact (show Tryz.prog.wantsStandIn 58=false by kernel_rfl)
theorem wholeFullCard_holds:Rows.WholeFullCardSaid:=
 Claim7.holds_tied_plain_at .later [] _ _ _ _ uw (λ_ h=>by cases h) (by kernel_rfl) (λ_ h=>by cases h) wholeFull_row_tie rfl ⟨rfl,rfl⟩ (by kernel_rfl) rfl tH (by kernel_rfl)
#print axioms wholeFullCard_holds
end Go.Proofs.YtplmgfkghomelaaGreatDoor
