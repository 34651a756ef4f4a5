/- Lemmas. -/
import Derived.Test.YtplmgfkghomelaaGreatDoorF1
set_option linter.unusedVariables false
set_option linter.unusedSimpArgs false
namespace Go.Proofs.YtplmgfkghomelaaGreatDoor
open Go.Sx
def Pst{α:Type}(o:Option α)(Q:α->Prop):Prop:=∀r,o=some r->Q r
theorem Pst.ret{α:Type}{x:α}{Q:α->Prop}(h:Q x):Pst (some x) Q:=λr e=>by cases e;exact h
theorem g8:type_of% @Pst.ret:=Pst.ret
theorem Pst.bind{α β:Type}{o:Option α}{f:α->Option β}{Q:β->Prop}(h:∀x,Pst (f x) Q):Pst (o.bind f) Q:=λr e=>by
 obtain ⟨x,_,hx⟩:=zF e;exact h x r hx
theorem i7:type_of% @Pst.bind:=Pst.bind
theorem Pst.ite{α:Type}{c:Bool}{A B:Option α}{Q:α->Prop}(h1:Pst A Q)(h2:Pst B Q):Pst (if c then A else B) Q:=by
 cases c with
 |true=>exact h1
 |false=>exact h2
theorem j8:type_of% @Pst.ite:=Pst.ite
theorem fX{p0:zp}{p1:zf}{g0:zl}{r:Int×zp×zl}(h:ju p0 p1 g0=some r):r.2.1.Rj=p0.Rj:=by
 have:Pst (ju p0 p1 g0) (λr=>r.2.1.Rj=p0.Rj):=by
  unfold ju;refine j8 (i7 λ_=>i7 λ_=>g8 rfl) ?_;refine j8 (i7 λ_=>i7 λ_=>i7 λ_=>g8 rfl) ?_;refine j8 (i7 λ_=>i7 λ_=>i7 λ_=>g8 rfl) ?_;refine j8 (i7 λ_=>j8 (g8 rfl) (g8 rfl)) ?_;refine j8 (i7 λ_=>g8 rfl) ?_;refine j8 (g8 rfl) ?_;refine j8 (i7 λ_=>j8 (i7 λ_=>g8 rfl) (i7 λ_=>g8 rfl)) ?_;refine i7 λ_=>i7 λ_=>i7 λ_=>j8 (i7 λ_=>g8 rfl) (i7 λ_=>i7 λ_=>j8 (g8 rfl) (g8 rfl))
 exact this r h
theorem Kn(xs:List Int)(x:Int):OK (xg xs x) (λi=>(0<=i/\x∈xs)\/(i= -1/\x∉xs)):=by
 unfold xg;refine d5 (R:=λo=>match o with|.inl _=>x∉xs|.inr r=>0<=r/\x∈xs) (f9 (λi _=>x∉xs.take i) (by simp) ?_ ?_) ?_
 ·intro i s again hi h k;unfold aN;refine f8 (i5 hi (λy hy=>b9 (λhe=>b8 ?_) (λhe=>k _ ?_)))
  ·have:x=y:=by simpa using he
   subst this;exact ⟨by omega,zmg hy⟩
  ·have hne:x≠y:=by simpa using he
   rw [ye,hy];simp only [Option.toList_some,f7,g9,not_or];exact ⟨h,hne⟩
 ·intro s h;rw [List.take_length] at h;exact h
 ·rintro (u|r) h
  ·exact b8 (.inr ⟨rfl,h⟩)
  ·exact b8 (.inl h)
theorem gP(xs:List Int)(x:Int):zY xs x=some (decide (x∈xs)):=by
 obtain ⟨i,h1,h2⟩:=Kn xs x;unfold zY;rw [h1];simp only [zbs,i4];rcases h2 with ⟨h,hm⟩|⟨rfl,hm⟩
 ·simp [h,hm]
 ·simp [hm]
def holds(x:Int)(m:List (Int×List Int)):List Int:=(m.filter (λe=>decide (x∈e.2))).map (·.1)
end Go.Proofs.YtplmgfkghomelaaGreatDoor
