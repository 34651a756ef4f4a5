/- THE STATEMENT HostGrowsUptoCardSaid IS PROVED (the tied card; what is read is of bulk at most 1048576): for every input the law returns true, and what was there before the call is as it was. The listed tables read as the program's text lays them; the card ties that to the text. -/
import Derived.Test.YtplmgfkghomelaaGreatDoorL1HostGrowsUptob
set_option linter.unusedVariables false
set_option linter.unusedSimpArgs false
namespace Go.Proofs.YtplmgfkghomelaaGreatDoor
open Go.Sx Go.ChangeShapes Go.WideShapes Go.ChangeAt Go.RowKit
theorem oj:Rows.HostGrowsUptoSaid:=
 OpenClaim.holds_of_cond 3 Tryz.f3 rfl rfl rfl rfl rfl rfl rfl ⟨rfl,rfl,rfl,rfl,rfl⟩ rfl rfl rfl rfl rfl (by kernel_rfl) Tryz.func3 mj
  (of_decide_eq_true (by kernel_rfl)) (by unfold Func.isWrapper;first|(rw [if_pos (by decide+kernel)];kernel_rfl)|(rw [if_neg (by decide+kernel)];exact ⟨rfl,rfl⟩))
  (λos started H enc _ F=>by rw [OpenClaim.pre_eq_preRow];exact mi os started H enc F)
theorem nf (f:FuncId) (fn:Func) (hf:Tryz.pinned.checked.prog.funcNamed "tappet/tappetlaw25.HostGrows" =some f) (hfn:Tryz.pinned.checked.prog.funcs[f]? =some fn):
  false=Tryz.pinned.checked.prog.looks []/\∀(j:Nat) t,fn.params[j]? =some t->Tryz.pinned.checked.prog.wantsStandIn t=false:=by
 obtain rfl:f=3:=Option.some.inj ((show Tryz.prog.funcNamed "tappet/tappetlaw25.HostGrows" =some 3 by kernel_rfl).symm.trans hf) |>.symm
 obtain rfl:fn=Tryz.f3:=(Option.some.inj (Tryz.func3.symm.trans hfn)).symm;refine ⟨by kernel_rfl,λj t ht=> ?_⟩;have ht2:t∈Tryz.f3.params:=Array.mem_of_getElem? ht;rw [Tryz.params3] at ht2;simp only [List.mem_toArray,List.mem_cons,List.not_mem_nil,or_false] at ht2;subst ht2;exact (show Tryz.prog.wantsStandIn 28=false by kernel_rfl)
theorem hostGrowsUptoCard_holds:Rows.HostGrowsUptoCardSaid:=
 Claim7.holds_tied_plain_at .later [] _ _ _ _ oj (λ_ h=>by cases h) (by kernel_rfl) (λ_ h=>by cases h) hostGrowsUpto_row_tie rfl ⟨rfl,rfl⟩ (by kernel_rfl) rfl nf (by kernel_rfl)
#print axioms hostGrowsUptoCard_holds
end Go.Proofs.YtplmgfkghomelaaGreatDoor
