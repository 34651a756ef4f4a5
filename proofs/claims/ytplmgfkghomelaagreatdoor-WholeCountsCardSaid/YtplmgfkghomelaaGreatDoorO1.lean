/- Lemmas. -/
import Derived.Test.YtplmgfkghomelaaGreatDoorF1
set_option linter.all false
namespace Go.Proofs.YtplmgfkghomelaaGreatDoor
open Go.Sx
def Pst{a:Type}(o:Option a)(Q:a->Prop):Prop:=∀r,o=some r->Q r
theorem Pst.ret{a:Type}{x:a}{Q:a->Prop}(h:Q x):Pst (some x) Q:=λr e=>by cases e;exact h
theorem i4:type_of% @Pst.ret:=Pst.ret
theorem Pst.bind{a b:Type}{o:Option a}{f:a->Option b}{Q:b->Prop}(h:∀x,Pst (f x) Q):Pst (o.bind f) Q:=λr e=>by
 obtain ⟨x,_,c⟩:=zL e;exact h x r c
theorem i8:type_of% @Pst.bind:=Pst.bind
theorem Pst.ite{a:Type}{c:Bool}{A B:Option a}{Q:a->Prop}(h:Pst A Q)(b:Pst B Q):Pst (if c then A else B) Q:=by
 cases c with
 |true=>exact h
 |false=>exact b
theorem k6:type_of% @Pst.ite:=Pst.ite
theorem gB{p:zq}{a:zf}{g:zm}{r:Int×zq×zm}(h:jx p a g=some r):r.2.1.SO=p.SO:=by
 have:Pst (jx p a g) (λr=>r.2.1.SO=p.SO):=by
  unfold jx;refine k6 (i8 λ_=>i8 λ_=>i4 rfl) ?_;refine k6 (i8 λ_=>i8 λ_=>i8 λ_=>i4 rfl) ?_;refine k6 (i8 λ_=>i8 λ_=>i8 λ_=>i4 rfl) ?_;refine k6 (i8 λ_=>k6 (i4 rfl) (i4 rfl)) ?_;refine k6 (i8 λ_=>i4 rfl) ?_;refine k6 (i4 rfl) ?_;refine k6 (i8 λ_=>k6 (i8 λ_=>i4 rfl) (i8 λ_=>i4 rfl)) ?_;refine i8 λ_=>i8 λ_=>i8 λ_=>k6 (i8 λ_=>i4 rfl) (i8 λ_=>i8 λ_=>k6 (i4 rfl) (i4 rfl))
 exact this r h
theorem LN(a:List Int)(x:Int):OK (xf a x) (λi=>(0<=i/\x∈a)\/(i= -1/\x∉a)):=by
 unfold xf;refine d6 (R:=λo=>match o with|.inl _=>x∉a|.inr r=>0<=r/\x∈a) (g9 (λi _=>x∉a.take i) (by simp) ?_ ?_) ?_
 ·intro i s b f h k;unfold bf;refine f9 (i7 f (λy e=>d5 (λc=>b9 ?_) (λc=>k _ ?_)))
  ·have:x=y:=by simpa using c
   subst this;exact ⟨by omega,zmg e⟩
  ·have d:x≠y:=by simpa using c
   rw [x6,e];simp only [Option.toList_some,g8,i6,not_or];exact ⟨h,d⟩
 ·intro s h;rw [List.take_length] at h;exact h
 ·rintro (u|r) h
  ·exact b9 (.inr ⟨rfl,h⟩)
  ·exact b9 (.inl h)
theorem iv(a:List Int)(x:Int):qa a x=some (decide (x∈a)):=by
 obtain ⟨i,c,d⟩:=LN a x;unfold qa;rw [c];simp only [zbs,i5];rcases d with ⟨h,b⟩|⟨rfl,b⟩
 ·simp [h,b]
 ·simp [b]
def holds(x:Int)(m:List (Int×List Int)):List Int:=(m.filter (λe=>decide (x∈e.2))).map (·.1)
end Go.Proofs.YtplmgfkghomelaaGreatDoor
