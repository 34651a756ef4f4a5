/- THE STATEMENT HostTurnsCardSaid IS PROVED (the tied card): for every input the law returns true, and what was there before the call is as it was. The listed tables read as the program's text lays them; the card ties that to the text. -/
import Derived.Test.YtplmgfkghomelaaGreatDoorL1HostTurnsb
set_option linter.unusedVariables false
set_option linter.unusedSimpArgs false
namespace Go.Proofs.YtplmgfkghomelaaGreatDoor
open Go.Sx Go.ChangeShapes Go.WideShapes Go.ChangeAt Go.RowKit
theorem uE:Rows.HostTurnsSaid:=
 OpenClaim.holds_of_cond 4 Tryz.f4 rfl rfl rfl rfl rfl rfl rfl ⟨rfl,rfl,rfl,rfl,rfl⟩ rfl rfl rfl rfl rfl (by kernel_rfl) Tryz.func4 rN
  (of_decide_eq_true (by kernel_rfl)) (by unfold Func.isWrapper;first|(rw [if_pos (by decide+kernel)];kernel_rfl)|(rw [if_neg (by decide+kernel)];exact ⟨rfl,rfl⟩))
  (λos started H enc _ F=>by rw [OpenClaim.pre_eq_preRow];exact rM os started H enc F)
theorem tQ (f:FuncId) (fn:Func) (hf:Tryz.pinned.checked.prog.funcNamed "tappet/tappetlaw25.HostTurns" =some f) (hfn:Tryz.pinned.checked.prog.funcs[f]? =some fn):
  false=Tryz.pinned.checked.prog.looks []/\∀(j:Nat) t,fn.params[j]? =some t->Tryz.pinned.checked.prog.wantsStandIn t=false:=by
 obtain rfl:f=4:=Option.some.inj ((show Tryz.prog.funcNamed "tappet/tappetlaw25.HostTurns" =some 4 by kernel_rfl).symm.trans hf) |>.symm
 obtain rfl:fn=Tryz.f4:=(Option.some.inj (Tryz.func4.symm.trans hfn)).symm;refine ⟨by kernel_rfl,λj t ht=> ?_⟩;have ht2:t∈Tryz.f4.params:=Array.mem_of_getElem? ht;rw [Tryz.params4] at ht2;simp only [List.mem_toArray,List.mem_cons,List.not_mem_nil,or_false] at ht2;subst ht2;exact (show Tryz.prog.wantsStandIn 28=false by kernel_rfl)
theorem hostTurnsCard_holds:Rows.HostTurnsCardSaid:=
 Claim7.holds_tied_plain_at .later [] _ _ _ _ uE (λ_ h=>by cases h) (by kernel_rfl) (λ_ h=>by cases h) hostTurns_row_tie rfl ⟨rfl,rfl⟩ (by kernel_rfl) rfl tQ (by kernel_rfl)
#print axioms hostTurnsCard_holds
end Go.Proofs.YtplmgfkghomelaaGreatDoor
