/- THE STATEMENT WholeRefsCardSaid IS PROVED (the tied card): for every input the law returns true, and what was there before the call is as it was. The listed tables read as the program's text lays them; the card ties that to the text. -/
import Derived.Test.YtplmgfkghomelaaGreatDoorL1WholeRefsb
set_option linter.all false
namespace Go.Proofs.YtplmgfkghomelaaGreatDoor
open Go.Sx Go.ChangeShapes Go.WideShapes Go.ChangeAt Go.RowKit
theorem wG:Rows.WholeRefsSaid:=
 OpenClaim.holds_of_cond 9 Tryz.f9 rfl rfl rfl rfl rfl rfl rfl ⟨rfl,rfl,rfl,rfl,rfl⟩ rfl rfl rfl rfl rfl (by kernel_rfl) Tryz.func9 tm
  (of_decide_eq_true (by kernel_rfl)) (by unfold Func.isWrapper;first|(rw [if_pos (by decide+kernel)];kernel_rfl)|(rw [if_neg (by decide+kernel)];exact ⟨rfl,rfl⟩))
  (λos s H e _ F=>by rw [OpenClaim.pre_eq_preRow];exact tj os s H e F)
theorem uS (f:FuncId) (fn:Func) (b:Tryz.pinned.checked.prog.funcNamed "tappet/tappettop.WholeRefs" =some f) (a:Tryz.pinned.checked.prog.funcs[f]? =some fn):
  false=Tryz.pinned.checked.prog.looks []/\∀(j:Nat) t,fn.params[j]? =some t->Tryz.pinned.checked.prog.wantsStandIn t=false:=by
 obtain rfl:f=9:=Option.some.inj ((show Tryz.prog.funcNamed "tappet/tappettop.WholeRefs" =some 9 by kernel_rfl).symm.trans b) |>.symm
 obtain rfl:fn=Tryz.f9:=(Option.some.inj (Tryz.func9.symm.trans a)).symm;refine ⟨by kernel_rfl,λj t c=> ?_⟩;have h:t∈Tryz.f9.params:=Array.mem_of_getElem? c;rw [Tryz.params9] at h;simp only [List.mem_toArray,List.mem_cons,List.not_mem_nil,or_false] at h;subst h;exact (show Tryz.prog.wantsStandIn 58=false by kernel_rfl)
theorem wholeRefsCard_holds:Rows.WholeRefsCardSaid:=
 Claim7.holds_tied_plain_at .later [] _ _ _ _ wG (λ_ h=>by cases h) (by kernel_rfl) (λ_ h=>by cases h) wholeRefs_row_tie rfl ⟨rfl,rfl⟩ (by kernel_rfl) rfl uS (by kernel_rfl)
#print axioms wholeRefsCard_holds
end Go.Proofs.YtplmgfkghomelaaGreatDoor
