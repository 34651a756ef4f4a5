/- Lemmas. -/
import Derived.Test.YtplmgfkghomelaaGreatDoorF1
set_option linter.all false
namespace Go.Proofs.YtplmgfkghomelaaGreatDoor
open Go.Sx
def Pst{a:Type}(o:Option a)(Q:a->Prop):Prop:=∀r,o=some r->Q r
theorem Pst.ret{a:Type}{x:a}{Q:a->Prop}(h:Q x):Pst (some x) Q:=λr e=>by cases e;exact h
theorem i7:type_of% @Pst.ret:=Pst.ret
theorem Pst.bind{a b:Type}{o:Option a}{f:a->Option b}{Q:b->Prop}(h:∀x,Pst (f x) Q):Pst (o.bind f) Q:=λr e=>by
 obtain ⟨x,_,c⟩:=zI e;exact h x r c
theorem j4:type_of% @Pst.bind:=Pst.bind
theorem Pst.ite{a:Type}{c:Bool}{A B:Option a}{Q:a->Prop}(h:Pst A Q)(b:Pst B Q):Pst (if c then A else B) Q:=by
 cases c with
 |true=>exact h
 |false=>exact b
theorem k7:type_of% @Pst.ite:=Pst.ite
theorem gP{p:zt}{a:zf}{g:zm}{r:Int×zt×zm}(h:jy p a g=some r):r.2.1.Uw=p.Uw:=by
 have:Pst (jy p a g) (λr=>r.2.1.Uw=p.Uw):=by
  unfold jy;refine k7 (j4 λ_=>j4 λ_=>i7 rfl) ?_;refine k7 (j4 λ_=>j4 λ_=>j4 λ_=>i7 rfl) ?_;refine k7 (j4 λ_=>j4 λ_=>j4 λ_=>i7 rfl) ?_;refine k7 (j4 λ_=>k7 (i7 rfl) (i7 rfl)) ?_;refine k7 (j4 λ_=>i7 rfl) ?_;refine k7 (i7 rfl) ?_;refine k7 (j4 λ_=>k7 (j4 λ_=>i7 rfl) (j4 λ_=>i7 rfl)) ?_;refine j4 λ_=>j4 λ_=>j4 λ_=>k7 (j4 λ_=>i7 rfl) (j4 λ_=>j4 λ_=>k7 (i7 rfl) (i7 rfl))
 exact this r h
theorem MF(a:List Int)(x:Int):OK (xl a x) (λi=>(0<=i/\x∈a)\/(i= -1/\x∉a)):=by
 unfold xl;refine d6 (R:=λo=>match o with|.inl _=>x∉a|.inr r=>0<=r/\x∈a) (i5 (λi _=>x∉a.take i) (by simp) ?_ ?_) ?_
 ·intro i s b f h k;unfold ba;refine g9 (i9 f (λy e=>d5 (λc=>b9 ?_) (λc=>k _ ?_)))
  ·have:x=y:=by simpa using c
   subst this;exact ⟨by omega,zmg e⟩
  ·have d:x≠y:=by simpa using c
   rw [yh,e];simp only [Option.toList_some,f8,g8,not_or];exact ⟨h,d⟩
 ·intro s h;rw [TF] at h;exact h
 ·rintro (u|r) h
  ·exact b9 (.inr ⟨rfl,h⟩)
  ·exact b9 (.inl h)
theorem fM(a:List Int)(x:Int):zW a x=some (decide (x∈a)):=by
 obtain ⟨i,c,d⟩:=MF a x;unfold zW;rw [c];simp only [zbs,i6];rcases d with ⟨h,b⟩|⟨rfl,b⟩
 ·simp [h,b]
 ·simp [b]
def holds(x:Int)(m:List (Int×List Int)):List Int:=(m.filter (λe=>decide (x∈e.2))).map (·.1)
theorem wd(a:zR)(p:Int):∀(m:List (Int×List Int))(s:List Int),oH (jP a p) (jr a p) m s=
  if holds p m=[]\/(s.length+(holds p m).length)*8<=140737488355328 then jr a p (s++holds p m) else none:=by
 intro m
 induction m with
 |nil=>intro s;simp [oH,holds]
 |cons e m i=>
  intro s
  have f:jP a p e s=if decide (p∈e.2)=true then (room (s.length+([e.1]:List Int).length) 8).bind (λ_=>some (.inl (s++[e.1]))) else some (.inl s):=by
   unfold jP;simp only [fM,zbs]
  show (jP a p e s).bind _=_;rw [f];by_cases h:p∈e.2
  ·have c:holds p (e::m)=e.1::holds p m:=by simp [holds,h]
   rw [c];simp only [h,decide_true,q9];by_cases b:(s.length+([e.1]:List Int).length)*8<=140737488355328
   ·simp only [room,d7 b,zbs];rw [i];have g:s++[e.1]++holds p m=s++e.1::holds p m:=by simp
    rw [g];simp only [l8,u4,yj,ya] at b |-;by_cases d:holds p m=[]
    ·simp only [d,true_or,q9,yj,ya,b,or_true]
    ·have:(s.length+1+(holds p m).length)=s.length+((holds p m).length+1):=by omega
     simp only [d,false_or,this];simp
   ·simp only [room,d8 b,Option.bind_none];rw [d8];rintro (h1|h1)
    ·cases h1
    ·simp only [u4,yj] at b h1;omega
  ·have c:holds p (e::m)=holds p m:=by simp [holds,h]
   rw [c];simp only [h,decide_false,zfe,x5,zbs];exact i s
theorem Ko{a b:List Int}(h:a.Perm b):a.mergeSort (λx y=>decide (x<=y))=b.mergeSort (λx y=>decide (x<=y)):=by
 have t:∀x y z:Int,decide (x<=y)=true->decide (y<=z)=true->decide (x<=z)=true:=by intro x y z;simp;omega
 have c:∀x y:Int,(decide (x<=y)||decide (y<=x))=true:=by intro x y;simp;omega
 have d:=List.pairwise_mergeSort t c a;have e:=List.pairwise_mergeSort t c b;have f:(a.mergeSort (λx y=>decide (x<=y))).Perm (b.mergeSort (λx y=>decide (x<=y))):=(List.mergeSort_perm a _).trans (h.trans (List.mergeSort_perm b _).symm);exact List.Perm.eq_of_pairwise (λx y _ _ g i=>by simp at g i;omega) d e f
theorem mu(a:zR)(p:Int):MI (jP a p) (jr a p) a.held ([]:List Int):=by
 intro q c r h;rw [wd] at h |-;have b:(holds p q).Perm (holds p a.held):=(c.filter _).map _;have hl:=b.length_eq
 have d:(holds p q=[])=(holds p a.held=[]):=by
  rw [eq_iff_iff,<- TK,<- TK,hl]
 rw [hl];simp only [d];split at h
 ·rename_i e
  rw [d7 e];unfold jr xu at h |-;simp only [Tr] at h |-;rw [hl,Ko b];exact h
 ·cases h
end Go.Proofs.YtplmgfkghomelaaGreatDoor
