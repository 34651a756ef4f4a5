/- Lemmas. -/
import Derived.Test.YtplmgfkghomelaaGreatDoorF1
set_option linter.all false
namespace Go.Proofs.YtplmgfkghomelaaGreatDoor
open Go.Sx
def Pst{a:Type}(o:Option a)(Q:a->Prop):Prop:=∀r,o=some r->Q r
theorem Pst.ret{a:Type}{x:a}{Q:a->Prop}(h:Q x):Pst (some x) Q:=λr e=>by cases e;exact h
theorem i9:type_of% @Pst.ret:=Pst.ret
theorem Pst.bind{a b:Type}{o:Option a}{f:a->Option b}{Q:b->Prop}(h:∀x,Pst (f x) Q):Pst (o.bind f) Q:=λr e=>by
 obtain ⟨x,_,c⟩:=zK e;exact h x r c
theorem j5:type_of% @Pst.bind:=Pst.bind
theorem Pst.ite{a:Type}{c:Bool}{A B:Option a}{Q:a->Prop}(h:Pst A Q)(b:Pst B Q):Pst (if c then A else B) Q:=by
 cases c with
 |true=>exact h
 |false=>exact b
theorem k8:type_of% @Pst.ite:=Pst.ite
theorem gH{p:zr}{a:zf}{g:zm}{r:Int×zr×zm}(h:jw p a g=some r):r.2.1.Tt=p.Tt:=by
 have:Pst (jw p a g) (λr=>r.2.1.Tt=p.Tt):=by
  unfold jw;refine k8 (j5 λ_=>j5 λ_=>i9 rfl) ?_;refine k8 (j5 λ_=>j5 λ_=>j5 λ_=>i9 rfl) ?_;refine k8 (j5 λ_=>j5 λ_=>j5 λ_=>i9 rfl) ?_;refine k8 (j5 λ_=>k8 (i9 rfl) (i9 rfl)) ?_;refine k8 (j5 λ_=>i9 rfl) ?_;refine k8 (i9 rfl) ?_;refine k8 (j5 λ_=>k8 (j5 λ_=>i9 rfl) (j5 λ_=>i9 rfl)) ?_;refine j5 λ_=>j5 λ_=>j5 λ_=>k8 (j5 λ_=>i9 rfl) (j5 λ_=>j5 λ_=>k8 (i9 rfl) (i9 rfl))
 exact this r h
theorem L9(a:List Int)(x:Int):OK (xg a x) (λi=>(0<=i/\x∈a)\/(i= -1/\x∉a)):=by
 unfold xg;refine d6 (R:=λo=>match o with|.inl _=>x∉a|.inr r=>0<=r/\x∈a) (i7 (λi _=>x∉a.take i) (by simp) ?_ ?_) ?_
 ·intro i s b f h k;unfold aX;refine g9 (j4 f (λy e=>d5 (λc=>b9 ?_) (λc=>k _ ?_)))
  ·have:x=y:=by simpa using c
   subst this;exact ⟨by omega,zmg e⟩
  ·have d:x≠y:=by simpa using c
   rw [yc,e];simp only [Option.toList_some,g8,i6,not_or];exact ⟨h,d⟩
 ·intro s h;rw [z9] at h;exact h
 ·rintro (u|r) h
  ·exact b9 (.inr ⟨rfl,h⟩)
  ·exact b9 (.inl h)
theorem iA(a:List Int)(x:Int):qa a x=some (decide (x∈a)):=by
 obtain ⟨i,c,d⟩:=L9 a x;unfold qa;rw [c];simp only [zbs,i8];rcases d with ⟨h,b⟩|⟨rfl,b⟩
 ·simp [h,b]
 ·simp [b]
def holds(x:Int)(m:List (Int×List Int)):List Int:=(m.filter (λe=>decide (x∈e.2))).map (·.1)
end Go.Proofs.YtplmgfkghomelaaGreatDoor
