/- THE STATEMENT WholeCountsCardSaid IS PROVED (the tied card): for every input the law returns true, and what was there before the call is as it was. The listed tables read as the program's text lays them; the card ties that to the text. -/
import Derived.Test.YtplmgfkghomelaaGreatDoorL1WholeCountsb
set_option linter.all false
namespace Go.Proofs.YtplmgfkghomelaaGreatDoor
open Go.Sx Go.ChangeShapes Go.WideShapes Go.ChangeAt Go.RowKit
theorem sd:Rows.WholeCountsSaid:=
 OpenClaim.holds_of_cond 8 Tryz.f8 rfl rfl rfl rfl rfl rfl rfl ⟨rfl,rfl,rfl,rfl,rfl⟩ rfl rfl rfl rfl rfl (by kernel_rfl) Tryz.func8 pC
  (of_decide_eq_true (by kernel_rfl)) (by unfold Func.isWrapper;first|(rw [if_pos (by decide+kernel)];kernel_rfl)|(rw [if_neg (by decide+kernel)];exact ⟨rfl,rfl⟩))
  (λos s H e _ F=>by rw [OpenClaim.pre_eq_preRow];exact pB os s H e F)
theorem rq (f:FuncId) (fn:Func) (b:Tryz.pinned.checked.prog.funcNamed "tappet/tappettop.WholeCounts" =some f) (a:Tryz.pinned.checked.prog.funcs[f]? =some fn):
  false=Tryz.pinned.checked.prog.looks []/\∀(j:Nat) t,fn.params[j]? =some t->Tryz.pinned.checked.prog.wantsStandIn t=false:=by
 obtain rfl:f=8:=Option.some.inj ((show Tryz.prog.funcNamed "tappet/tappettop.WholeCounts" =some 8 by kernel_rfl).symm.trans b) |>.symm
 obtain rfl:fn=Tryz.f8:=(Option.some.inj (Tryz.func8.symm.trans a)).symm;refine ⟨by kernel_rfl,λj t c=> ?_⟩;have h:t∈Tryz.f8.params:=Array.mem_of_getElem? c;rw [Tryz.params8] at h;simp only [List.mem_toArray,List.mem_cons,List.not_mem_nil,or_false] at h;subst h;exact (show Tryz.prog.wantsStandIn 58=false by kernel_rfl)
theorem wholeCountsCard_holds:Rows.WholeCountsCardSaid:=
 Claim7.holds_tied_plain_at .later [] _ _ _ _ sd (λ_ h=>by cases h) (by kernel_rfl) (λ_ h=>by cases h) wholeCounts_row_tie rfl ⟨rfl,rfl⟩ (by kernel_rfl) rfl rq (by kernel_rfl)
#print axioms wholeCountsCard_holds
end Go.Proofs.YtplmgfkghomelaaGreatDoor
