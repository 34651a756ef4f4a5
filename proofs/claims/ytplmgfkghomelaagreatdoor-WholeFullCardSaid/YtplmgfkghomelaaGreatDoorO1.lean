/- Lemmas. -/
import Derived.Test.YtplmgfkghomelaaGreatDoorF1
set_option linter.unusedVariables false
set_option linter.unusedSimpArgs false
namespace Go.Proofs.YtplmgfkghomelaaGreatDoor
open Go.Sx
def Pst{α:Type}(o:Option α)(Q:α->Prop):Prop:=∀r,o=some r->Q r
theorem Pst.ret{α:Type}{x:α}{Q:α->Prop}(h:Q x):Pst (some x) Q:=λr e=>by cases e;exact h
theorem g8:type_of% @Pst.ret:=Pst.ret
theorem Pst.bind{α β:Type}{o:Option α}{f:α->Option β}{Q:β->Prop}(h:∀x,Pst (f x) Q):Pst (o.bind f) Q:=λr e=>by
 obtain ⟨x,_,hx⟩:=zI e;exact h x r hx
theorem i8:type_of% @Pst.bind:=Pst.bind
theorem Pst.ite{α:Type}{c:Bool}{A B:Option α}{Q:α->Prop}(h1:Pst A Q)(h2:Pst B Q):Pst (if c then A else B) Q:=by
 cases c with
 |true=>exact h1
 |false=>exact h2
theorem j9:type_of% @Pst.ite:=Pst.ite
theorem gq{p0:zp}{p1:zf}{g0:zl}{r:Int×zp×zl}(h:jy p0 p1 g0=some r):r.2.1.SB=p0.SB:=by
 have:Pst (jy p0 p1 g0) (λr=>r.2.1.SB=p0.SB):=by
  unfold jy;refine j9 (i8 λ_=>i8 λ_=>g8 rfl) ?_;refine j9 (i8 λ_=>i8 λ_=>i8 λ_=>g8 rfl) ?_;refine j9 (i8 λ_=>i8 λ_=>i8 λ_=>g8 rfl) ?_;refine j9 (i8 λ_=>j9 (g8 rfl) (g8 rfl)) ?_;refine j9 (i8 λ_=>g8 rfl) ?_;refine j9 (g8 rfl) ?_;refine j9 (i8 λ_=>j9 (i8 λ_=>g8 rfl) (i8 λ_=>g8 rfl)) ?_;refine i8 λ_=>i8 λ_=>i8 λ_=>j9 (i8 λ_=>g8 rfl) (i8 λ_=>i8 λ_=>j9 (g8 rfl) (g8 rfl))
 exact this r h
theorem Lm(xs:List Int)(x:Int):OK (xg xs x) (λi=>(0<=i/\x∈xs)\/(i= -1/\x∉xs)):=by
 unfold xg;refine d6 (R:=λo=>match o with|.inl _=>x∉xs|.inr r=>0<=r/\x∈xs) (i4 (λi _=>x∉xs.take i) (by simp) ?_ ?_) ?_
 ·intro i s again hi h k;unfold aS;refine f9 (i7 hi (λy hy=>d5 (λhe=>b9 ?_) (λhe=>k _ ?_)))
  ·have:x=y:=by simpa using he
   subst this;exact ⟨by omega,zmg hy⟩
  ·have hne:x≠y:=by simpa using he
   rw [x7,hy];simp only [Option.toList_some,i5,i6,not_or];exact ⟨h,hne⟩
 ·intro s h;rw [List.take_length] at h;exact h
 ·rintro (u|r) h
  ·exact b9 (.inr ⟨rfl,h⟩)
  ·exact b9 (.inl h)
theorem hY(xs:List Int)(x:Int):qa xs x=some (decide (x∈xs)):=by
 obtain ⟨i,h1,h2⟩:=Lm xs x;unfold qa;rw [h1];simp only [zbs,g9];rcases h2 with ⟨h,hm⟩|⟨rfl,hm⟩
 ·simp [h,hm]
 ·simp [hm]
def holds(x:Int)(m:List (Int×List Int)):List Int:=(m.filter (λe=>decide (x∈e.2))).map (·.1)
end Go.Proofs.YtplmgfkghomelaaGreatDoor
