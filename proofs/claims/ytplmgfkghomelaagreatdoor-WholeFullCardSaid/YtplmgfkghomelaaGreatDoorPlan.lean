/- Lemmas. -/
import Derived.Test.YtplmgfkghomelaaGreatDoorLib
import Derived.WalkSpells
set_option linter.unusedVariables false
set_option linter.unusedSimpArgs false
namespace Go.Sx
section
section
open Go.RowKit
variable {a:Act} {x:Operand} {l:List Oper} {o:Oper} {i j:Nat} {listed:Array Bool} {d:Nat} {v:Value}
def Lp:List Operand->List Nat
 |[]=>[]
 |.tmp t::r=>t::Lp r
 |_::r=>Lp r
def lk(l:List Oper)(o:Oper):List Nat:=Lp o.op.operands.toList++(match o.guard with
 |none=>[]
 |some (j,_)=>match (vk l j).bind (·.dst) with
  |some d=>[d]
  |none=>[])
theorem Jh{t:Nat}{xs:List Operand}(h:Operand.tmp t∈xs):t∈Lp xs:=by
 induction xs with
 |nil=>exact absurd h znm
 |cons x r ih=>
  rcases j5.1 h with h2|h2
  ·subst h2;exact zcs
  ·cases x with
   |tmp u=>exact zcm _ (ih h2)
   |const v=>exact ih h2
   |global g=>exact ih h2
   |func f=>exact ih h2
theorem Ji{b:Act}(h:∀t,x=.tmp t->a.tmps[t]? =b.tmps[t]?):a.eval x=b.eval x:=by
 cases x with
 |tmp t=>simp [Act.eval,yi,h t rfl]
 |_=>rfl
theorem hZ{b:Act}(hs:ax o.op=true)(h:∀s∈lk l o,a.tmps[s]? =b.tmps[s]?):execOp a.eval o=execOp b.eval o:=
 iB hs (λx hx=>Ji (λt e=>h t (zal _ (Jh (by rw [<- e];exact hx)))))
theorem dK{b:Act}(h:∀s∈lk l o,a.tmps[s]? =b.tmps[s]?):Region.wanted o (yielded l.toArray a.tmps)=Region.wanted o (yielded l.toArray b.tmps):=by
 unfold Region.wanted;cases hg:o.guard with
 |none=>rfl
 |some g=>
  obtain ⟨j,c⟩:=g
  have hy:yielded l.toArray a.tmps j=yielded l.toArray b.tmps j:=by
   unfold yielded;rw [dx];cases hd:(vk l j).bind (·.dst) with
   |none=>rfl
   |some d=>
    grind [lk]
  simp only [hy]
abbrev na:=List (Nat×(World->Prop))
def holds:na->World->Prop
 |[],_=>True
 |p::r,w=>p.2 w/\holds r w
def lD(keep:List Nat):na->na
 |[]=>[]
 |p::r=>match mem? p.1 keep with
  |true=>p::lD keep r
  |false=>lD keep r
theorem Cg{F:na}{w:World}(h:holds F w):∀p∈F,p.2 w:=by
 induction F with
 |nil=>intro p hp;exact absurd hp znm
 |cons q r ih=>
  intro p hp;rcases j5.1 hp with rfl|hp
  ·exact h.1
  ·exact ih h.2 p hp
theorem Ch{keep:List Nat}{F:na}{p:Nat×(World->Prop)}(hp:p∈F)(hk:p.1∈keep):p∈lD keep F:=by
 induction F with
 |nil=>exact absurd hp znm
 |cons q r ih=>
  unfold lD;rcases j5.1 hp with rfl|hp
  ·rw [mem?_iff.2 hk];exact zcs
  grind
def aft(l:List Oper)(i:Nat):List Nat:=match vk l i with
 |none=>[]
 |some o=>(o.after.toList.filter (λe=>Region.binds .any e)).map (·.on)
theorem Of(h:vk l i=some o):j∈aft l i↔∃e∈o.after,Region.binds .any e=true/\e.on=j:=by
 grind [aft]
def close(l:List Oper):Nat->List Nat->List Nat->List Nat
 |0,_,sb=>sb
 |_+1,[],sb=>sb
 |n+1,j::r,sb=>match mem? j sb with
  |true=>close l n r sb
  |false=>close l n (aft l j++r) (j::sb)
def Mp(l:List Oper)(i:Nat):List Nat:=close l ((l.length+1)*(l.length+1)) (aft l i) []
theorem pe{l:List Oper}{p:Nat->Prop}(down:∀j,p j->∀k∈aft l j,p k):∀(n:Nat)(todo sb:List Nat),(∀x∈todo,p x)->(∀x∈sb,p x)->∀x∈close l n todo sb,p x
 |0,_,_,_,h=>h
 |_+1,[],_,_,h=>h
 |n+1,j::r,sb,ht,h=>by
  unfold close;split
  ·exact pe down n r sb (λx hx=>ht x (zcm _ hx)) h
  ·refine pe down n (aft l j++r) (j::sb) (λx hx=> ?_) (λx hx=> ?_)
   ·grind
   grind
def RC(P:Program)(l:List Oper)(F:na)(b:Act)(j:Nat):Prop:=
  ∃ (o : Oper) (v : Value), vk l j = some o /\ ax o.op = true /\ (∀ d, o.dst = some d -> b.tmps[d]? = some v) /\
    ((Region.wanted o (yielded l.toArray b.tmps)=true/\((∀w,(execOp b.eval o).run P w=.ok (.value v) w)\/∃Φ,(j,Φ)∈F/\∀w,Φ w->(execOp b.eval o).run P w=.ok (.value v) w))\/
     (Region.wanted o (yielded l.toArray b.tmps)=false/\v=undef))
def eD(l:List Oper)(j:Nat):Option Nat:=(vk l j).bind (·.dst)
def rM(l:List Oper)(j:Nat):List Nat:=match vk l j with
 |none=>[]
 |some o=>lk l o
structure Rel (P:Program) (l:List Oper) (done eff:List Nat) (F:na) (w:World) (listed:Array Bool) (a b:Act):Prop where
 size:listed.size=l.length
 Ux:a.tmps.size=b.tmps.size
 Uq:a.defers=b.defers
 sub:∀j,listed.getD j false=true->j∈done
 down:∀j,listed.getD j false=true->∀k∈aft l j,listed.getD k false=true
 eff:∀j∈eff,listed.getD j false=true
 same:∀s,(∀j∈done,listed.getD j false=false->eD l j≠some s)->a.tmps[s]? =b.tmps[s]?
 facts:∀p∈F,listed.getD p.1 false=false->p.2 w
 Uu:∀j∈done,listed.getD j false=false->RC P l F b j
 UL:∀i∈done,listed.getD i false=false->∀j∈done,listed.getD j false=false->∀s,eD l j=some s->s∈rM l i->j∈aft l i
def cnt(l:List Oper)(listed:Array Bool):Nat:=((List.range l.length).filter (λj=> !listed.getD j false)).length
theorem Jj{p q:Nat->Bool}(h:∀j,q j=true->p j=true){t:Nat}(hp:p t=true)(hq:q t=false):∀n,t<n->((List.range n).filter q).length<((List.range n).filter p).length:=by
 have le:∀n,((List.range n).filter q).length<=((List.range n).filter p).length:=by
  intro n
  induction n with
  |zero=>exact l6 _
  |succ n ih=>
   rw [List.range_succ,y8,y8,p5,p5]
   grind
 intro n
 induction n with
 |zero=>intro ht;omega
 |succ n ih=>
  intro ht;rw [List.range_succ,y8,y8,p5,p5]
  grind
theorem Ap(hs:listed.size=l.length)(hj:j<l.length)(h:listed.getD j false=false):cnt l (listed.setIfInBounds j true)<cnt l listed:=by
 unfold cnt;refine Jj (λk hk=> ?_) (t:=j) (by rw [h];rfl) ?_ l.length hj
 ·cases hl:listed.getD k false with
  |false=>rfl
  |true=>rw [getD_set_true hl] at hk;exact hk
 ·simp [hs,hj]
def QZ(l:List Oper):Bool:=(List.range l.length).all λi=>(aft l i).all λj=>Nat.blt j i
theorem Og(h:i<l.length):∃o,vk l i=some o:=by
 have:l.toArray[i]? =some l[i]:=by simp [h]
 grind [dx]
theorem pP(h:vk l i=some o):i<l.length:=(zes.1 (su h)).1
theorem Jk(h:j<listed.size):listed.getD j true=listed.getD j false:=by
 simp [h]
theorem kJ(hs:listed.size=l.length):j∈Region.ready .any l.toArray listed↔j<l.length/\listed.getD j false=false/\∀k∈aft l j,listed.getD k false=true:=by
 rw [mem_ready]
 grind [dx,pP,Jk,Of,Og]
theorem Aq(ht:QZ l=true)(hs:listed.size=l.length)(hr:Region.ready .any l.toArray listed=[]):∀j,j<l.length->listed.getD j false=true:=by
 intro j
 induction j using Nat.strongRecOn with
 |_ j ih=>
  intro hj;cases h:listed.getD j false with
  |true=>rfl
  |false=>
   have:j∈Region.ready .any l.toArray listed:=(kJ hs).2 ⟨hj,h,λk hk=>by
    have h1:=x6.1 (x6.1 ht j (by simpa using hj)) k hk;have hkj:k<j:=by simpa [u6] using h1
    grind⟩
   grind
section
variable {P:Program} {l:List Oper} {N:Nat} {Q:Exit->Act->World->Prop} {done eff:List Nat} {F:na} {w:World} {fr:List (Nat×Value)} {a b:Act} {listed:Array Bool}
theorem Rel.get_put{d:Option Nat}{a:Act}{s:Nat}(h:d≠some s):(a.put d v).tmps[s]? =a.tmps[s]? :=by
 cases d with
 |none=>rfl
 |some d=>
  have:d≠s:=λe=>h (by rw [e])
  simp only [Act.put]
  grind
theorem yb:type_of% @Rel.get_put:=Rel.get_put
theorem fm{d:Option Nat}{a:Act}:(a.put d v).tmps.size=a.tmps.size:=by
 cases d<;>simp [Act.put]
theorem jl{d:Option Nat}{a:Act}:(a.put d v).defers=a.defers:=by
 cases d<;>simp [Act.put]
theorem we{a:Act}(h:d<a.tmps.size):(a.put (some d) v).tmps[d]? =some v:=by
 simp [Act.put,h]
theorem bB{listed:Array Bool}(h:(listed.setIfInBounds i true).getD j false=false):listed.getD j false=false:=by
 cases hl:listed.getD j false with
 |false=>rfl
 |true=>rw [getD_set_true hl] at h;exact h
theorem cq{listed:Array Bool}(h:i<listed.size):(listed.setIfInBounds i true).getD i false=true:=by
 simp [h]
theorem pQ(ht:QZ l=true)(hsel:l.all (λo=>ax o.op)=true)
  (cbn:∀listed a,Rel P l done eff F w listed a b->Region.ready .any l.toArray listed=[]->Q .normal a w)
  (cb:∀fuel listed a,Rel P l done eff F w listed a b->cnt l listed<=fuel+1->∀j∈Region.ready .any l.toArray listed,j∉done->wpOp P l.toArray Q j (wpAny P .any l.toArray Q fuel (listed.setIfInBounds j true)) a w):
  ∀fuel listed a,Rel P l done eff F w listed a b->cnt l listed<=fuel->wpAny P .any l.toArray Q fuel listed a w:=by
 intro fuel
 induction fuel with
 |zero=>
  intro listed a hR hc
  have hr:Region.ready .any l.toArray listed=[]:=by
   rw [List.eq_nil_iff_forall_not_mem];intro j hj;obtain ⟨h1,h2,_⟩:=(kJ hR.size).1 hj;have:=Ap hR.size h1 h2;omega
  exact ⟨hr,cbn _ _ hR hr⟩
 |succ fuel ih=>
  intro listed a hR hc;refine ⟨λhr=>cbn _ _ hR hr,λj hj=> ?_⟩;by_cases hd:j∈done
  ·obtain ⟨h1,h2,h3⟩:=(kJ hR.size).1 hj;obtain ⟨o,v,ho,hs,hdst,hrun⟩:=hR.Uu j hd h2
   have hagree:∀s∈lk l o,a.tmps[s]? =b.tmps[s]? :=λs hs'=>hR.same s (λk hk hkl e=>by
    have:=hR.UL j hd h2 k hk hkl s e (by grind [rM])
    grind)
   have next:wpAny P .any l.toArray Q fuel (listed.setIfInBounds j true) (a.put o.dst v) w:=by
    refine ih _ _ ⟨by simpa using hR.size,by rw [fm,hR.Ux],by rw [jl,hR.Uq],λk hk=> ?_,λk hk q hq=> ?_,λk hk=>getD_set_true (hR.eff k hk),λs hs'=> ?_,λp hp hl=>hR.facts p hp (bB hl),λk hk hl=>hR.Uu k hk (bB hl),
     λi hi hil k hk hkl=>hR.UL i hi (bB hil) k hk (bB hkl)⟩ ?_
    ·by_cases e:j=k
     ·subst e;exact hd
     ·rw [getD_set_ne false e] at hk;exact hR.sub k hk
    ·by_cases e:j=k
     ·subst e;exact getD_set_true (h3 q hq)
     ·rw [getD_set_ne false e] at hk;exact getD_set_true (hR.down k hk q hq)
    ·by_cases e:o.dst=some s
     ·have hb:=hdst s e;have hlt:s<a.tmps.size:=by rw [hR.Ux];exact (w7.1 hb).1
      grind [we]
     ·rw [yb e];refine hR.same s (λk hk hkl hke=> ?_);by_cases ejk:j=k
      ·grind [eD]
      ·exact hs' k hk (by rw [getD_set_ne false ejk];exact hkl) hke
    ·have:=Ap hR.size h1 h2;omega
   unfold wpOp;rw [dx,ho];simp only [];rw [dK hagree];rcases hrun with ⟨hw,hrun⟩|⟨hw,rfl⟩
   ·rw [d7 hw];left;unfold Oper.wp;rw [hZ hs hagree]
    have:(execOp b.eval o).run P w=.ok (.value v) w:=by
     rcases hrun with hrun|⟨Φ,hF,hrun⟩
     ·exact hrun w
     ·exact hrun w (hR.facts _ hF h2)
    rw [this,Oper.upon_value];exact next
   grind
  grind
def Rf(P:Program)(l:List Oper)(Q:Exit->Act->World->Prop)(done eff:List Nat)(F:na)(b:Act)(w:World):Prop:=
 ∀fuel listed a,Rel P l done eff F w listed a b->cnt l listed<=fuel->wpAny P .any l.toArray Q fuel listed a w
def OA(P:Program)(l:List Oper)(N:Nat)(Q:Exit->Act->World->Prop)(done eff:List Nat)(F:na)(fr:List (Nat×Value))(w:World):Prop:=
 ∀b,Rep N fr b->Rf P l Q done eff F b w
def Ar(l:List Oper):Bool:=QZ l&&l.all (λo=>ax o.op)
theorem CW.plan{id:Nat}(hm:P.follows .mixedOrders=true)(h:∀w1,Chg [] w w1->OA P l N Q [] [] [] fr w1):CW P N (.region id l.toArray true) Q fr w:=λa ha=>by
 refine wp_region_any hm ?_;refine h {w with drawn:=w.drawn+1} ⟨rfl,rfl,rfl,l6 _,λ_ _ _=>rfl⟩ a ha _ _ _ ⟨by simp,rfl,rfl,λj hj=> ?_,λj hj=> ?_,λj hj=>absurd hj znm,λs _=>rfl,λp hp=>absurd hp znm,λj hj=>absurd hj znm,λj hj=>absurd hj znm⟩ ?_
 ·exfalso
  by_cases hlt:j<l.length
  ·simp [hlt] at hj
  ·simp [hlt] at hj
 ·exfalso
  by_cases hlt:j<l.length
  ·simp [hlt] at hj
  ·simp [hlt] at hj
 grind [cnt]
def JA(l:List Oper)(done eff:List Nat)(i:Nat):Bool:=
 !mem? i done&&(match eD l i with
  |none=>true
  |some d=> !mem? d (rM l i)&&done.all (λj=>mem? j eff||(!mem? d (rM l j)&& !(eD l j==some d))))&&
 done.all (λj=>mem? j eff||mem? j (aft l i)||match eD l j with
  |none=>true
  |some s=> !mem? s (rM l i))
theorem not_mem?{n:Nat}{l:List Nat}(h:(!mem? n l)=true):n∉l:=λhm=>by rw [mem?_iff.2 hm] at h;cases h
theorem OA.add(fr2:List (Nat×Value))(F2:na)(hl:vk l i=some o)(hck:JA l done eff i=true)(hs:ax o.op=true)
  (hfr:∀b,Rep N fr b->Rep N fr2 (b.put o.dst v))
  (hF:∀p∈F,p∈F2) (hF2:∀p∈F2,p∈F\/p.2 w)
  (hv:∀b,Rep N fr b->(Region.wanted o (yielded l.toArray b.tmps)=true/\((∀w,(execOp b.eval o).run P w=.ok (.value v) w)\/∃Φ,(i,Φ)∈F2/\∀w,Φ w->(execOp b.eval o).run P w=.ok (.value v) w))\/
   (Region.wanted o (yielded l.toArray b.tmps)=false/\v=undef))
  (hN:∀d,o.dst=some d->d<N)
  (h:OA P l N Q (i::done) eff F2 fr2 w):OA P l N Q done eff F fr w:=by
 intro b hb fuel listed a hR hc;unfold JA at hck;simp only [zae] at hck;obtain ⟨⟨hn,hd⟩,hlk⟩:=hck;have hn:=not_mem? hn;have hdi:eD l i=o.dst:=by unfold eD;rw [hl];rfl
 have hli:rM l i=lk l o:=by unfold rM;rw [hl]
 have hil:listed.getD i false=false:=by
  cases hx:listed.getD i false with
  |false=>rfl
  |true=>exact absurd (hR.sub i hx) hn
 have noteff:∀j,listed.getD j false=false->mem? j eff=false:=λj hj=>by
  cases hm:mem? j eff with
  |false=>rfl
  |true=>rw [hR.eff j (mem?_iff.1 hm)] at hj;cases hj
 have hd1:∀d,o.dst=some d->d∉lk l o/\∀j∈done,listed.getD j false=false->d∉rM l j/\eD l j≠some d:=by
  grind [not_mem?]
 have hd2:∀j∈done,listed.getD j false=false->∀s,eD l j=some s->s∈rM l i->j∈aft l i:=by
  intro j hj hjl s e hs';have:=x6.1 hlk j hj;rw [noteff j hjl,Bool.false_or,e] at this;simp only [q7] at this;rcases this with h1|h1
  ·exact mem?_iff.1 h1
  grind [not_mem?]
 have keepL:∀(o':Oper),(∀d,o.dst=some d->d∉lk l o')->∀s∈lk l o',(b.put o.dst v).tmps[s]? =b.tmps[s]? :=λo' h' s hs'=>yb (λe=>h' s e hs')
 refine h (b.put o.dst v) (hfr b hb) fuel listed a ⟨hR.size,by rw [fm,hR.Ux],by rw [jl,hR.Uq],λj hj=>zcm _ (hR.sub j hj),hR.down,hR.eff,λs hs'=> ?_,λp hp hl'=> ?_,λj hj hjl=> ?_,?_⟩ hc
 ·have hne:o.dst≠some s:=λe=>hs' i zcs hil (by rw [hdi,e])
  rw [yb hne];exact hR.same s (λj hj=>hs' j (zcm _ hj))
 ·rcases hF2 p hp with h1|h1
  ·exact hR.facts p h1 hl'
  ·exact h1
 ·rcases j5.1 hj with rfl|hj
  ·have e1:=keepL o (λd e=>(hd1 d e).1);refine ⟨o,v,hl,hs,λd e=> ?_,?_⟩
   ·rw [e];exact we (by rw [hb.size];exact hN d e)
   ·rw [dK e1,hZ hs e1];exact hv b hb
  ·obtain ⟨o',v',ho',hs',hdst',hrun'⟩:=hR.Uu j hj hjl;have hlj:rM l j=lk l o':=by grind [rM]
   have hdj:eD l j=o'.dst:=by grind [eD]
   have e1:=keepL o' (λd e=>by grind);refine ⟨o',v',ho',hs',λd e=> ?_,?_⟩
   ·grind [yb]
   ·rw [dK e1,hZ hs' e1]
    grind
 ·intro i' hi' hil' j hj hjl s e hs';rcases j5.1 hi' with rfl|hi2
  ·grind
  ·rcases j5.1 hj with rfl|hj2
   ·grind
   ·exact hR.UL i' hi2 hil' j hj2 hjl s e hs'
def Rg(l:List Oper)(done:List Nat):Bool:=(List.range l.length).all λj=>mem? j done
theorem OA.fin(hp:Ar l=true)(hall:Rg l done=true)(h:QW N Q .normal fr w):OA P l N Q done eff F fr w:=by
 intro b hb;unfold Ar at hp;rw [zae] at hp;refine pQ hp.1 hp.2 (λlisted a hR hr=> ?_) (λfuel listed a hR hc j hj hd=> ?_)
 ·have hpr:=Aq hp.1 hR.size hr
  have same:∀s,a.tmps[s]? =b.tmps[s]? :=λs=>hR.same s (λj hj hjl e=>by
   unfold eD at e;cases ho:vk l j with
   |none=>rw [ho] at e;cases e
   |some o=>rw [hpr j (pP ho)] at hjl;cases hjl)
  exact h a ⟨hR.Ux.trans hb.size,hR.Uq.trans hb.defers,λi v hi=>(same i).trans (hb.get i v hi)⟩
 ·obtain ⟨h1,_,_⟩:=(kJ hR.size).1 hj;exact absurd (mem?_iff.1 (x6.1 hall j (by simpa using h1))) hd
def Q0(l:List Oper)(done eff:List Nat)(i:Nat):Bool:=
 !mem? i done&&
 (List.range l.length).all (λj=>mem? j done||Nat.beq j i||(aft l j).any (λk=> !mem? k done))&&
 done.all (λj=>mem? j eff||mem? j (Mp l i)||match eD l j with
  |none=>true
  |some s=> !mem? s (rM l i))&&
 (match eD l i with
  |none=>true
  |some d=>done.all (λj=>mem? j eff||mem? j (Mp l i)||(!mem? d (rM l j)&& !(eD l j==some d))))
def uB(l:List Oper)(i:Nat)(keep:List Nat):na->Bool
 |[]=>true
 |p::r=>(mem? p.1 (Mp l i)||mem? p.1 keep)&&uB l i keep r
theorem Ci{keep:List Nat}(h:uB l i keep F=true):∀p∈F,p.1∈Mp l i\/p.1∈keep:=by
 induction F with
 |nil=>intro p hp;exact absurd hp znm
 |cons q r ih=>
  unfold uB at h;rw [zae,q7] at h;intro p hp;rcases j5.1 hp with rfl|hp
  ·exact h.1.imp mem?_iff.1 mem?_iff.1
  ·exact ih h.2 p hp
def mB(P:Program)(l:List Oper)(Q:Exit->Act->World->Prop)(done eff:List Nat)(F:na)(e:Exit)(b:Act)(w:World):Prop:=match e with
 |.normal=>holds F w/\Rf P l Q done eff F b w
 |_=>False
def bare(o:Oper):Oper:={o with guard:=none}
theorem OA.act(keep:List Nat)(hp:Ar l=true)(hl:vk l i=some o)(hg:gd l fr o=some true)(hck:Q0 l done eff i=true)(hk:uB l i keep F=true)
  (h:OW P [bare o] N (mB P l Q (i::done) (i::eff) (lD keep F)) 0 fr w):OA P l N Q done eff F fr w:=by
 intro b hb;unfold Ar at hp;rw [zae] at hp;unfold Q0 at hck;simp only [zae] at hck;obtain ⟨⟨⟨hn,hsat⟩,hlk⟩,hd⟩:=hck;have hn:=not_mem? hn;have hilt:=pP hl;have hs:ax o.op=true:=x6.1 hp.2 o (zmg (su hl));have hdi:eD l i=o.dst:=by unfold eD;rw [hl];rfl
 have hli:rM l i=lk l o:=by unfold rM;rw [hl]
 refine pQ hp.1 hp.2 (λlisted a hR hr=> ?_) (λfuel listed a hR hc j hj hd'=> ?_)
 ·exact absurd (hR.sub i (Aq hp.1 hR.size hr i hilt)) hn
 obtain ⟨h1,h2,h3⟩:=(kJ hR.size).1 hj;have h3':∀k∈Mp l j,listed.getD k false=true:=pe (p:=λk=>listed.getD k false=true) hR.down _ _ _ h3 (λx hx=>absurd hx znm)
 have noteff:∀j,listed.getD j false=false->mem? j eff=false:=λj hj=>by
  cases hm:mem? j eff with
  |false=>rfl
  |true=>rw [hR.eff j (mem?_iff.1 hm)] at hj;cases hj
 have e:j=i:=by
  have:=x6.1 hsat j (by simpa using h1);simp only [q7] at this;rcases this with (h4|h4)|h4
  ·exact absurd (mem?_iff.1 h4) hd'
  ·exact t6 h4
  ·obtain ⟨k,hk1,hk2⟩:=List.any_eq_true.1 h4;exact absurd (hR.sub k (h3 k hk1)) (not_mem? hk2)
 subst e
 have hagree:∀s∈lk l o,a.tmps[s]? =b.tmps[s]? :=λs hs'=>hR.same s (λk hk' hkl e=>by
  have:=x6.1 hlk k hk';rw [noteff k hkl,Bool.false_or,e] at this;simp only [q7] at this;rcases this with h4|h4
  ·rw [h3' k (mem?_iff.1 h4)] at hkl;cases hkl
  grind [not_mem?])
 have hd1:∀d,o.dst=some d->∀k∈done,listed.getD k false=false->d∉rM l k/\eD l k≠some d:=by
  intro d e k hk' hkl;rw [hdi,e] at hd;have:=x6.1 hd k hk';rw [noteff k hkl,Bool.false_or] at this;simp only [q7,zae] at this;rcases this with h4|h4
  ·rw [h3' k (mem?_iff.1 h4)] at hkl;cases hkl
  grind [not_mem?]
 have next:∀(v:Value)(w':World)(a1 b1:Act),a1.tmps=(a.put o.dst v).tmps->b1.tmps=(b.put o.dst v).tmps->a1.defers=b1.defers->mB P l Q (j::done) (j::eff) (lD keep F) .normal b1 w'->
   wpAny P .any l.toArray Q fuel (listed.setIfInBounds j true) a1 w':=by
  intro v w' a1 b1 ea eb ed hA;obtain ⟨hf,hA⟩:=hA;have isz:j<listed.size:=by rw [hR.size];exact h1
  refine hA fuel _ a1 ⟨by simpa using hR.size,by rw [ea,eb,fm,fm,hR.Ux],ed,λk hk'=> ?_,λk hk' q hq=> ?_,λk hk'=> ?_,λs hs'=> ?_,λp hp' _=>Cg hf p hp',λk hk' hkl=> ?_,?_⟩ ?_
  ·by_cases e:j=k
   ·grind
   ·rw [getD_set_ne false e] at hk';exact zcm _ (hR.sub k hk')
  ·by_cases e:j=k
   ·subst e;exact getD_set_true (h3 q hq)
   ·rw [getD_set_ne false e] at hk';exact getD_set_true (hR.down k hk' q hq)
  ·rcases j5.1 hk' with rfl|hk'
   ·exact cq isz
   ·exact getD_set_true (hR.eff k hk')
  ·rw [ea,eb];by_cases e:o.dst=some s
   ·rw [e];by_cases hlt:s<b.tmps.size
    ·rw [we hlt,we (by rw [hR.Ux];exact hlt)]
    ·rw [Array.getElem?_eq_none (by rw [fm,hR.Ux];omega),Array.getElem?_eq_none (by grind [fm])]
   ·rw [yb e,yb e]
    exact hR.same s (λk hk' hkl=>hs' k (zcm _ hk') (by
     have:j≠k:=λe2=>hd' (by rw [e2];exact hk')
     rw [getD_set_ne false this];exact hkl))
  ·rcases j5.1 hk' with rfl|hk'
   ·grind [cq]
   have hkl:=bB hkl;obtain ⟨o',v',ho',hs',hdst',hrun'⟩:=hR.Uu k hk' hkl;have hlj:rM l k=lk l o':=by grind [rM]
   have hdj:eD l k=o'.dst:=by grind [eD]
   have e1:∀s∈lk l o',b1.tmps[s]? =b.tmps[s]? :=λs hs2=>by
    grind [yb]
   refine ⟨o',v',ho',hs',λd e=> ?_,?_⟩
   ·grind [yb]
   ·rw [dK e1,hZ hs' e1];rcases hrun' with ⟨g1,g2|⟨Φ,g2,g3⟩⟩|g1
    ·grind
    ·refine .inl ⟨g1,.inr ⟨Φ,Ch g2 ?_,g3⟩⟩;rcases Ci hk _ g2 with h4|h4
     ·grind
     ·exact h4
    ·exact .inr g1
  ·intro i' hi' hil' k hk' hkl s e hs';rcases j5.1 hi' with rfl|hi'
   ·grind [cq]
   rcases j5.1 hk' with rfl|hk'
   ·grind [cq]
   exact hR.UL i' hi' (bB hil') k hk' (bB hkl) s e hs'
  ·have:=Ap hR.size h1 h2;omega
 have hb1:=h b hb;have hwant:Region.wanted o (yielded l.toArray b.tmps)=true:=xV hg hb
 have hb2:(bare o).wp P b w (λa w=>mB P l Q (j::done) (j::eff) (lD keep F) .normal a w) (mB P l Q (j::done) (j::eff) (lD keep F)):=by
  have:wpList P [bare o].toArray (mB P l Q (j::done) (j::eff) (lD keep F)) [bare o] b w:=hb1;unfold wpList at this;rw [d7 (show Region.wanted (bare o) (yielded [bare o].toArray b.tmps)=true from rfl)] at this;rcases this with h4|⟨_,a',w',h4⟩
  ·exact h4
  ·exact h4.elim
 unfold wpOp;rw [dx,hl];simp only [];rw [dK hagree,d7 hwant];left;unfold Oper.wp at hb2 |-
 have hex:execOp b.eval (bare o)=execOp a.eval o:=by
  rw [hZ hs hagree];rfl
 rw [hex] at hb2;generalize (execOp a.eval o).run P w=r at hb2 |-;cases r with
 |ok n w'=>
  cases n with
  |value v=>exact next v w' _ _ rfl rfl (by rw [jl,jl,hR.Uq]) hb2
  |skip=>exact next undef w' _ _ rfl rfl (by rw [jl,jl,hR.Uq]) hb2
  |defer d=>exact next undef w' _ _ (by cases ho:o.dst<;>rfl) (by cases ho:o.dst<;>simp [bare,ho,Act.put]) (by rw [jl,jl,hR.Uq]) hb2
  |enter f args=>
   refine Calls.mono hb2 (λe w'' he=> ?_);cases e with
   |returned v=>exact next v w'' _ _ rfl rfl (by rw [jl,jl,hR.Uq]) he
   |panicked c=>exact he.elim
   |outgrown=>obtain ⟨_,_,he⟩:=he;exact he.elim
  |row row args=>exact Rows.mono hb2 (λv w'' he=>next v w'' _ _ rfl rfl (by rw [jl,jl,hR.Uq]) he)
  |_=>exact hb2.elim
 |halt x w'=>
  cases x with
  |panic v=>exact hb2.elim
  |_=>exact hb2.elim
def Rh(l:List Oper)(done is:List Nat):Bool:=(List.range l.length).all (λj=>mem? j done||mem? j is||(aft l j).any (λk=> !mem? k done))
def Gw(l:List Oper)(done eff:List Nat)(i:Nat):Bool:=
 !mem? i done&&
 done.all (λj=>mem? j eff||mem? j (Mp l i)||match eD l j with
  |none=>true
  |some s=> !mem? s (rM l i))&&
 (match eD l i with
  |none=>true
  |some d=>done.all (λj=>mem? j eff||mem? j (Mp l i)||(!mem? d (rM l j)&& !(eD l j==some d))))
def Alt(P:Program)(l:List Oper)(N:Nat)(Q:Exit->Act->World->Prop)(done eff:List Nat)(F:na)(fr:List (Nat×Value))(w:World)(i:Nat):Prop:=
 ∃(o:Oper)(keep:List Nat),vk l i=some o/\gd l fr o=some true/\Gw l done eff i=true/\uB l i keep F=true/\OW P [bare o] N (mB P l Q (i::done) (i::eff) (lD keep F)) 0 fr w
theorem Alt.of(keep:List Nat)(hl:vk l i=some o)(hg:gd l fr o=some true)(hck:Gw l done eff i=true)(hk:uB l i keep F=true)
 (h:OW P [bare o] N (mB P l Q (i::done) (i::eff) (lD keep F)) 0 fr w):Alt P l N Q done eff F fr w i:=⟨o,keep,hl,hg,hck,hk,h⟩
theorem Lt{p:Nat->Prop}:∀i,i∈([]:List Nat)->p i:=λi h=>absurd h znm
theorem Cj{p:Nat->Prop}{a:Nat}{r:List Nat}(h:p a)(hr:∀i,i∈r->p i):∀i,i∈a::r->p i:=λi hi=>by
 grind
theorem OA.acts(is:List Nat)(i0:Nat)(hp:Ar l=true)(hi0:mem? i0 is&& !mem? i0 done&&Nat.blt i0 l.length=true)(hsat:Rh l done is=true)
  (hall:∀i,i∈is->Alt P l N Q done eff F fr w i):OA P l N Q done eff F fr w:=by
 intro b hb;unfold Ar at hp;rw [zae] at hp;simp only [zae] at hi0;refine pQ hp.1 hp.2 (λlisted a hR hr=> ?_) (λfuel listed a hR hc j hj hd'=> ?_)
 ·exact absurd (hR.sub i0 (Aq hp.1 hR.size hr i0 (by simpa [u6] using hi0.2))) (not_mem? hi0.1.2)
 obtain ⟨h1,h2,h3⟩:=(kJ hR.size).1 hj;have h3':∀k∈Mp l j,listed.getD k false=true:=pe (p:=λk=>listed.getD k false=true) hR.down _ _ _ h3 (λx hx=>absurd hx znm)
 have noteff:∀j,listed.getD j false=false->mem? j eff=false:=λj hj=>by
  cases hm:mem? j eff with
  |false=>rfl
  |true=>rw [hR.eff j (mem?_iff.1 hm)] at hj;cases hj
 have e:j∈is:=by
  have:=x6.1 hsat j (by simpa using h1);simp only [q7] at this;rcases this with (h4|h4)|h4
  ·exact absurd (mem?_iff.1 h4) hd'
  ·exact mem?_iff.1 h4
  ·obtain ⟨k,hk1,hk2⟩:=List.any_eq_true.1 h4;exact absurd (hR.sub k (h3 k hk1)) (not_mem? hk2)
 obtain ⟨o,keep,hl,hg,hck,hk,h⟩:=hall j e;unfold Gw at hck;simp only [zae] at hck;obtain ⟨⟨hn,hlk⟩,hd⟩:=hck;have hn:=not_mem? hn;have hs:ax o.op=true:=x6.1 hp.2 o (zmg (su hl));have hdi:eD l j=o.dst:=by unfold eD;rw [hl];rfl
 have hli:rM l j=lk l o:=by unfold rM;rw [hl]
 have hagree:∀s∈lk l o,a.tmps[s]? =b.tmps[s]? :=λs hs'=>hR.same s (λk hk' hkl e=>by
  have:=x6.1 hlk k hk';rw [noteff k hkl,Bool.false_or,e] at this;simp only [q7] at this;rcases this with h4|h4
  ·rw [h3' k (mem?_iff.1 h4)] at hkl;cases hkl
  grind [not_mem?])
 have hd1:∀d,o.dst=some d->∀k∈done,listed.getD k false=false->d∉rM l k/\eD l k≠some d:=by
  intro d e k hk' hkl;rw [hdi,e] at hd;have:=x6.1 hd k hk';rw [noteff k hkl,Bool.false_or] at this;simp only [q7,zae] at this;rcases this with h4|h4
  ·rw [h3' k (mem?_iff.1 h4)] at hkl;cases hkl
  grind [not_mem?]
 have next:∀(v:Value)(w':World)(a1 b1:Act),a1.tmps=(a.put o.dst v).tmps->b1.tmps=(b.put o.dst v).tmps->a1.defers=b1.defers->mB P l Q (j::done) (j::eff) (lD keep F) .normal b1 w'->
   wpAny P .any l.toArray Q fuel (listed.setIfInBounds j true) a1 w':=by
  intro v w' a1 b1 ea eb ed hA;obtain ⟨hf,hA⟩:=hA;have isz:j<listed.size:=by rw [hR.size];exact h1
  refine hA fuel _ a1 ⟨by simpa using hR.size,by rw [ea,eb,fm,fm,hR.Ux],ed,λk hk'=> ?_,λk hk' q hq=> ?_,λk hk'=> ?_,λs hs'=> ?_,λp hp' _=>Cg hf p hp',λk hk' hkl=> ?_,?_⟩ ?_
  ·by_cases e:j=k
   ·grind
   ·rw [getD_set_ne false e] at hk';exact zcm _ (hR.sub k hk')
  ·by_cases e:j=k
   ·subst e;exact getD_set_true (h3 q hq)
   ·rw [getD_set_ne false e] at hk';exact getD_set_true (hR.down k hk' q hq)
  ·rcases j5.1 hk' with rfl|hk'
   ·exact cq isz
   ·exact getD_set_true (hR.eff k hk')
  ·rw [ea,eb];by_cases e:o.dst=some s
   ·rw [e];by_cases hlt:s<b.tmps.size
    ·rw [we hlt,we (by rw [hR.Ux];exact hlt)]
    ·rw [Array.getElem?_eq_none (by rw [fm,hR.Ux];omega),Array.getElem?_eq_none (by grind [fm])]
   ·rw [yb e,yb e]
    exact hR.same s (λk hk' hkl=>hs' k (zcm _ hk') (by
     have:j≠k:=λe2=>hd' (by rw [e2];exact hk')
     rw [getD_set_ne false this];exact hkl))
  ·rcases j5.1 hk' with rfl|hk'
   ·grind [cq]
   have hkl:=bB hkl;obtain ⟨o',v',ho',hs',hdst',hrun'⟩:=hR.Uu k hk' hkl;have hlj:rM l k=lk l o':=by grind [rM]
   have hdj:eD l k=o'.dst:=by grind [eD]
   have e1:∀s∈lk l o',b1.tmps[s]? =b.tmps[s]? :=λs hs2=>by
    grind [yb]
   refine ⟨o',v',ho',hs',λd e=> ?_,?_⟩
   ·grind [yb]
   ·rw [dK e1,hZ hs' e1];rcases hrun' with ⟨g1,g2|⟨Φ,g2,g3⟩⟩|g1
    ·grind
    ·refine .inl ⟨g1,.inr ⟨Φ,Ch g2 ?_,g3⟩⟩;rcases Ci hk _ g2 with h4|h4
     ·grind
     ·exact h4
    ·exact .inr g1
  ·intro i' hi' hil' k hk' hkl s e hs';rcases j5.1 hi' with rfl|hi'
   ·grind [cq]
   rcases j5.1 hk' with rfl|hk'
   ·grind [cq]
   exact hR.UL i' hi' (bB hil') k hk' (bB hkl) s e hs'
  ·have:=Ap hR.size h1 h2;omega
 have hb1:=h b hb;have hwant:Region.wanted o (yielded l.toArray b.tmps)=true:=xV hg hb
 have hb2:(bare o).wp P b w (λa w=>mB P l Q (j::done) (j::eff) (lD keep F) .normal a w) (mB P l Q (j::done) (j::eff) (lD keep F)):=by
  have:wpList P [bare o].toArray (mB P l Q (j::done) (j::eff) (lD keep F)) [bare o] b w:=hb1;unfold wpList at this;rw [d7 (show Region.wanted (bare o) (yielded [bare o].toArray b.tmps)=true from rfl)] at this;rcases this with h4|⟨_,a',w',h4⟩
  ·exact h4
  ·exact h4.elim
 unfold wpOp;rw [dx,hl];simp only [];rw [dK hagree,d7 hwant];left;unfold Oper.wp at hb2 |-
 have hex:execOp b.eval (bare o)=execOp a.eval o:=by
  rw [hZ hs hagree];rfl
 rw [hex] at hb2;generalize (execOp a.eval o).run P w=r at hb2 |-;cases r with
 |ok n w'=>
  cases n with
  |value v=>exact next v w' _ _ rfl rfl (by rw [jl,jl,hR.Uq]) hb2
  |skip=>exact next undef w' _ _ rfl rfl (by rw [jl,jl,hR.Uq]) hb2
  |defer d=>exact next undef w' _ _ (by cases ho:o.dst<;>rfl) (by cases ho:o.dst<;>simp [bare,ho,Act.put]) (by rw [jl,jl,hR.Uq]) hb2
  |enter f args=>
   refine Calls.mono hb2 (λe w'' he=> ?_);cases e with
   |returned v=>exact next v w'' _ _ rfl rfl (by rw [jl,jl,hR.Uq]) he
   |panicked c=>exact he.elim
   |outgrown=>obtain ⟨_,_,he⟩:=he;exact he.elim
  |row row args=>exact Rows.mono hb2 (λv w'' he=>next v w'' _ _ rfl rfl (by rw [jl,jl,hR.Uq]) he)
  |_=>exact hb2.elim
 |halt x w'=>
  cases x with
  |panic v=>exact hb2.elim
  |_=>exact hb2.elim
theorem OA.next{F2:na}(hf:holds F2 w)(h:OA P l N Q done eff F2 fr w):OW P [o] N (mB P l Q done eff F2) 1 fr w:=
 f7 rfl (λb hb=>⟨hf,h b hb⟩)
def mC(P:Program)(l:List Oper)(N:Nat)(eff:List Nat):List Nat->List Nat->List (Nat×Value)->Option (List (Nat×Value))
 |[],_,fr=>some fr
 |i::r,done,fr=>match vk l i with
  |none=>none
  |some o=>match JA l done eff i,ax o.op with
   |true,true=>match o.dst with
    |none=>match gd l fr o with
     |some false=>mC P l N eff r (i::done) fr
     |_=>none
    |some d=>match Nat.blt d N with
     |false=>none
     |true=>match gd l fr o with
      |some true=>match Lg P fr o with
       |some v=>mC P l N eff r (i::done) ((d,v)::fr)
       |none=>none
      |some false=>mC P l N eff r (i::done) ((d,undef)::fr)
      |none=>none
   |_,_=>none
def Qt(is done:List Nat):List Nat:=match is with
 |[]=>done
 |i::r=>Qt r (i::done)
theorem Fw:∀(is done:List Nat)(fr:List (Nat×Value)){fr2:List (Nat×Value)},mC P l N eff is done fr=some fr2->OA P l N Q (Qt is done) eff F fr2 w->OA P l N Q done eff F fr w:=by
 intro is
 induction is with
 |nil=>intro done fr fr2 h k;simp only [mC,g9] at h;subst h;exact k
 |cons i r ih=>
  intro done fr fr2 h k;unfold mC at h;split at h
  ·cases h
  ·rename_i o ho
   split at h
   ·rename_i hck hsel
    split at h
    ·rename_i hd
     split at h
     ·rename_i hg
      refine OA.add (v:=undef) fr F ho hck hsel (λb hb=>by rw [hd];exact hb) (λp hp=>hp) (λp hp=>.inl hp) (λb hb=>.inr ⟨xV hg hb,rfl⟩) (λd e=>by grind) ?_
      exact ih _ _ h k
     ·cases h
    ·rename_i d hd
     split at h
     ·cases h
     ·rename_i hN
      have hN':∀d',o.dst=some d'->d'<N:=λd' e=>by rw [hd] at e;cases e;simpa [u6] using hN
      split at h
      ·rename_i hg
       split at h
       ·rename_i v hv
        refine OA.add (v:=v) ((d,v)::fr) F ho hck hsel (λb hb=>by rw [hd];exact hb.put hN) (λp hp=>hp) (λp hp=>.inl hp) (λb hb=>.inl ⟨xV hg hb,.inl (λw=>tK hv hb w)⟩) hN' ?_
        exact ih _ _ h k
       ·cases h
      ·rename_i hg
       refine OA.add (v:=undef) ((d,undef)::fr) F ho hck hsel (λb hb=>by rw [hd];exact hb.put hN) (λp hp=>hp) (λp hp=>.inl hp) (λb hb=>.inr ⟨xV hg hb,rfl⟩) hN' ?_
       exact ih _ _ h k
      ·cases h
   ·cases h
theorem OA.pure(is:List Nat)(new:List (Nat×Value))
  (h:(mC P l N eff is done fr).map (λfr2=>oV fr2 (aQ [] (new++fr)))=some (iC (aQ [] (new++fr))))
  (k:OA P l N Q (Qt is done) eff F (new++fr) w):OA P l N Q done eff F fr w:=by
 cases hc':mC P l N eff is done fr with
 |none=>rw [hc'] at h;cases h
 |some fr2=>
  rw [hc'] at h;simp only [t5,g9] at h;exact Fw is done fr hc' (λa ha=>k a (ha.agrees h))
theorem OA.val(hl:vk l i=some o)(hck:JA l done eff i=true)(hs:ax o.op=true)(hg:gd l fr o=some true)(hd:o.dst=some d)(hN:Nat.blt d N=true)
  (hr:∀b w,Rep N fr b->(execOp b.eval o).run P w=.ok (.value v) w)
  (h:OA P l N Q (i::done) eff F ((d,v)::fr) w):OA P l N Q done eff F fr w:=
 OA.add (v:=v) ((d,v)::fr) F hl hck hs (λb hb=>by rw [hd];exact hb.put hN) (λp hp=>hp) (λp hp=>.inl hp) (λb hb=>.inl ⟨xV hg hb,.inl (λw=>hr b w hb)⟩)
  (λd' e=>by rw [hd] at e;cases e;simpa [u6] using hN) h
theorem OA.sees(Φ:World->Prop)(hl:vk l i=some o)(hck:JA l done eff i=true)(hs:ax o.op=true)(hg:gd l fr o=some true)(hd:o.dst=some d)(hN:Nat.blt d N=true)
  (hr:∀b w,Rep N fr b->Φ w->(execOp b.eval o).run P w=.ok (.value v) w) (hw:Φ w)
  (h:OA P l N Q (i::done) eff ((i,Φ)::F) ((d,v)::fr) w):OA P l N Q done eff F fr w:=
 OA.add (v:=v) ((d,v)::fr) ((i,Φ)::F) hl hck hs (λb hb=>by rw [hd];exact hb.put hN) (λp hp=>zcm _ hp)
  (λp hp=>by
   rcases j5.1 hp with rfl|hp
   ·exact .inr hw
   ·exact .inl hp)
  (λb hb=>.inl ⟨xV hg hb,.inr ⟨Φ,zcs,λw hw=>hr b w hb hw⟩⟩)
  (λd' e=>by rw [hd] at e;cases e;simpa [u6] using hN) h
theorem OA.split(s:Nat){b:Bool}(hs:kE fr s=some (.bool b))(ht:b=true->OA P l N Q done eff F ((s,.bool true)::fr) w)(hf:b=false->OA P l N Q done eff F ((s,.bool false)::fr) w):OA P l N Q done eff F fr w:=by
 cases b with
 | true => exact fun a ha => ht rfl a ⟨ha.size, ha.defers, fun j v hj => by
   rw [bm] at hj;by_cases e:s=j
   ·subst e;rw [d7 rfl] at hj;exact ha.get _ _ (hs.trans hj)
   ·rw [d8 e] at hj;exact ha.get _ _ hj⟩
 | false => exact fun a ha => hf rfl a ⟨ha.size, ha.defers, fun j v hj => by
   rw [bm] at hj;by_cases e:s=j
   ·subst e;rw [d7 rfl] at hj;exact ha.get _ _ (hs.trans hj)
   ·rw [d8 e] at hj;exact ha.get _ _ hj⟩
theorem OA.ld{t:TypeId}{ty:TypeId}{pos:String}{af:Array Edge}{gdd:Option (Nat×Bool)}(hl:vk l i=some ⟨some d,.load t x,ty,pos,af,gdd⟩)(hck:JA l done eff i=true)
  (hg:gd l fr ⟨some d,.load t x,ty,pos,af,gdd⟩=some true) (hN:Nat.blt d N=true)
  {a:Addr} (hx:look fr x=some (.pointer (some a))) (hA:aj P (isAgg t)=some false) (hv:w.cell? a=some v)
  (h:OA P l N Q (i::done) eff ((i,λw=>w.cell? a=some v)::F) ((d,v)::fr) w):OA P l N Q done eff F fr w:=by
 refine OA.sees (λw=>w.cell? a=some v) hl hck rfl hg rfl hN (λa w ha hv=> ?_) hv h;have e1:=ha.look hx;simp [execOp,e1,oW hA hv]
theorem OA.ldN{t:TypeId}{ty:TypeId}{pos:String}{af:Array Edge}{gdd:Option (Nat×Bool)}(hl:vk l i=some ⟨some d,.load t x,ty,pos,af,gdd⟩)(hck:JA l done eff i=true)
  (hg:gd l fr ⟨some d,.load t x,ty,pos,af,gdd⟩=some true) (hN:Nat.blt d N=true)
  {b k:Nat} (cs:List Value) (hx:look fr x=some (.pointer (some ⟨b,k,none⟩))) (hA:aj P (isAgg t)=some true) (hs:aj P (sizeOf t)=some cs.length)
  (hv:∀j u,cs[j]? =some u->w.cell? ⟨b,k+j,none⟩=some u)
  (h:OA P l N Q (i::done) eff ((i,λw=>∀j u,cs[j]? =some u->w.cell? ⟨b,k+j,none⟩=some u)::F) ((d,.agg cs.toArray)::fr) w):OA P l N Q done eff F fr w:=by
 refine OA.sees (λw=>∀j u,cs[j]? =some u->w.cell? ⟨b,k+j,none⟩=some u) hl hck rfl hg rfl hN (λa w ha hv=> ?_) hv h;have e1:=ha.look hx;simp [execOp,e1,oX hA hs hv]
end
end
open Go.RowKit
variable {o:Oper} {x y:Operand} {q:Int} {kd:IntKind} {n:Nat} {t2:TypeId} {α:Type} {hi:Int} {xs ys:List α}
section
variable {P:Program} {N:Nat} {fr:List (Nat×Value)} {w:World}
theorem D6{ty:TypeId}{a:Addr}{v:Value}(h:(Instr.loadAt ty (.pointer (some a))).run P w=.ok v w):(loadVar ty a).run P w=.ok v w:=by
 simpa [Instr.loadAt,Instr.sureAddr] using h
def mV(x y:Int):Int:=if y<x then y else x
def pN(x y:Int):Int:=if y>x then y else x
def ue(s:ByteArray)(t:Int):Option Int:=match (if 0<=t then s[t.toNat]? else none) with
 |some b=>some (b.toNat:Int)
 |none=>none
theorem Lj{t:TypeId}{s:ByteArray}{c:Int}(ho:o.op=.index t x y)(hx:look fr x=some (.string s))(hy:look fr y=some (.int kd q))
  (ht:P.underlying t=some .string) (h:ue s q=some c):∀a w,Rep N fr a->(execOp a.eval o).run P w=.ok (.value (.int .u8 c)) w:=by
 intro a w ha;have e1:=ha.look hx;have e2:=ha.look hy;unfold ue at h;split at h
 ·rename_i b hb
  cases h
  simp [execOp,ho,Instr.index,e1,e2,asIntOf,run_underlying ht,hb]
 ·cases h
theorem Ll{t:TypeId}(e sz:Nat){b k:Nat}(ho:o.op=.indexAddr t x y)(hx:look fr x=some (.pointer (some ⟨b,k,none⟩)))(hy:look fr y=some (.int kd q))
  (h0:0<=q) (h1:q<(n:Int)) (ht:P.underlying t=some (.array n e)) (hs:aj P (sizeOf e)=some sz):∀a w,Rep N fr a->(execOp a.eval o).run P w=.ok (.value (.pointer (some ⟨b,k+q.toNat*sz,none⟩))) w:=by
 intro a w ha;have e1:=ha.look hx;have e2:=ha.look hy;simp [execOp,ho,Instr.indexAt,Instr.sureAddr,e1,e2,asIntOf,run_underlying ht,h0,h1,qV hs,dy]
end
def sB(P:Program)(eqv:TypeId->Value->Value->Option Bool)(xs ys:Array Value):List Field->Option Bool
 |[]=>some true
 | f::r=>match f.name== "_",aj P (part f.type xs f.offset),aj P (part f.type ys f.offset) with
  |false,some x,some y=>match eqv f.type x y,sB P eqv xs ys r with
   |some b,some c=>some (b&&c)
   |_,_=>none
  |_,_,_=>none
def Je(P:Program):Nat->TypeId->Value->Value->Option Bool
 |0,_,_,_=>none
 |n+1,t,x,y=>match P.underlying t,x,y with
  |some (.int _),.int k a,.int k' b=>if k=k' then some (a==b) else none
  |some .bool,.bool a,.bool b=>some (a==b)
  |some .string,.string a,.string b=>some (a==b)
  |some (.struct fs),.agg xs,.agg ys=>match P.stoodInHeld t with
   |false=>sB P (Je P n) xs ys fs.toList
   |true=>none
  |_,_,_=>none
theorem Gv{P:Program}{eqv:TypeId->Value->Value->Option Bool}{xs ys:Array Value}{d:Nat}{w:World}(he:∀t x y r,eqv t x y=some r->(Op.equalIn d t x y).run P w=.ok r w):
  ∀{fs:List Field} {r:Bool},sB P eqv xs ys fs=some r->(Op.eqFields d xs ys fs).run P w=.ok r w:=by
 intro fs
 induction fs with
 |nil=>intro r h;cases h;simp [Op.eqFields]
 |cons f fs ih=>
  intro r h;unfold sB at h;split at h
  ·rename_i x y hn hx hy
   split at h
   ·rename_i b c hb hc
    cases h
    have hn':f.name ≠ "_" :=by simpa using hn
    have e1:=qV hx w;have e2:=qV hy w;have e3:=he _ _ _ _ hb;have e4:=ih hc;unfold Op.eqFields;rw [d7 hn'];simp only [Sem.run_bind,e1,e2,e3,Result.andThen_ok];cases b with
    |true=>simpa using e4
    |false=>simp
   ·cases h
  ·cases h
theorem Jf{P:Program}(w:World):∀(n:Nat){t:TypeId}{x y:Value}{r:Bool},Je P n t x y=some r->∀d,n<=d->(Op.equalIn d t x y).run P w=.ok r w:=by
 intro n
 induction n with
 |zero=>intro t x y r h;cases h
 |succ n ih=>
  intro t x y r h d hd;obtain ⟨d,rfl⟩:∃e,d=e+1:=⟨d-1,by omega⟩
  unfold Je at h;split at h
  ·rename_i hu
   split at h
   ·rename_i hk
    cases h
    simp [Op.equalIn,run_underlying hu,hk]
   ·cases h
  ·rename_i hu
   cases h
   simp [Op.equalIn,run_underlying hu]
  ·rename_i hu
   cases h
   simp [Op.equalIn,run_underlying hu]
  ·rename_i fs xs ys hu
   split at h
   ·rename_i hp
    have hf:P.fieldsOf t=fs:=by unfold Program.fieldsOf;rw [hu]
    rw [run_equalIn_struct w d t xs ys (by rw [hf];exact hu) hp,hf]
    grind [Gv]
   ·cases h
  ·cases h
section
variable {P:Program} {N:Nat} {fr:List (Nat×Value)}
theorem Ob{t:TypeId}{xs ys:Array Value}{r:Bool}(ho:o.op=.binOp .eql t x y t2)(hx:look fr x=some (.agg xs))(hy:look fr y=some (.agg ys))
  (hm:P.eqGuardType P.depth t=false) (h:Je P 9 t (.agg xs) (.agg ys)=some r):∀a w,Rep N fr a->(execOp a.eval o).run P w=.ok (.value (.bool r)) w:=by
 intro a w ha;have e1:=ha.look hx;have e2:=ha.look hy;have e3:=run_eqGuard_agg (P:=P) w .eql t x y xs ys hm;have e4:=Jf w 9 h 10000 (by omega);simp [execOp,ho,e1,e2,e3,run_eql_struct,e4]
end
def cut(xs:List α)(lo hi:Int):Option (List α):=if 0<=lo/\lo<=hi/\hi<=xs.length then some ((xs.take hi.toNat).drop lo.toNat) else none
theorem aY{lo:Int}(h:cut xs lo hi=some ys):0<=lo/\lo<=hi/\hi<=xs.length/\ys=(xs.take hi.toNat).drop lo.toNat:=by
 grind [cut]
theorem iP{lo:Int}(h:cut xs lo hi=some ys):ys.length=hi.toNat-lo.toNat:=by
 obtain ⟨h0,h1,h2,rfl⟩:=aY h
 grind
theorem P8{lo:Int}(h:cut xs lo hi=some ys):ys.length<=xs.length:=by
 obtain ⟨h0,h1,h2,rfl⟩:=aY h
 grind
theorem Oc{t:Int}{x:α}(h:cut xs 0 hi=some ys)(hx:idx ys t=some x):idx xs t=some x:=by
 obtain ⟨h0,h1,h2,rfl⟩:=aY h
 grind [zU,idx]
theorem St.cap{w0 w:World}{S0:List Nat}{L:List Item}(h:St w0 S0 w L)(j:Nat){α:Type}{a:Option Addr}{n c:Nat}{T:TypeId}{enc:α->List Value}{sz:Nat}{xs:List α}(hj:L[j]? =some (qi (.slice a n c) T enc sz xs)):xs.length<=c:=by
 have hr:=h.all j _ hj;rcases hr.2 with ⟨hn,b,he⟩|⟨g,o,cap,cur,he,_,_,hnc,_⟩
 ·omega
 grind
section
variable {P:Program} {N:Nat} {fr:List (Nat×Value)}
theorem pO{t e:TypeId}{a:Option Addr}{c:Nat}(sz:Nat)(ho:o.op=.slice t x none (some y) none)(hx:look fr x=some (.slice a n c))(hy:look fr y=some (.int kd q))
  (hc:cut xs 0 q=some ys) (hcap:xs.length<=c) (ht:P.underlying t=some (.slice e)) (hs:aj P (sizeOf e)=some sz):∀b w,Rep N fr b->(execOp b.eval o).run P w=.ok (.value (.slice a ys.length c)) w:=by
 intro b w hb;have e1:=hb.look hx;have e2:=hb.look hy;obtain ⟨h0,h1,h2,_⟩:=aY hc;have hl:=iP hc;have h3:0<=q/\q<=(c:Int):=⟨h1,by omega⟩
 have e3:q.toNat-0=ys.length:=by simpa using hl.symm
 have e4:(if c=0 then a else a.map (λx=>x.add 0))=a:=by
  split
  ·rfl
  ·cases a with
   |none=>rfl
   |some z=>simp [Addr.add]
 simp [execOp,ho,Instr.sliceAt,Instr.slice,Instr.sliceBounds,Instr.sliceBound,run_underlying ht,e1,e2,asIntOf,h3,qV hs,hl,e4]
theorem An{t e:TypeId}{a:Option Addr}{c:Nat}(ho:o.op=.binOp .eql t x y t2)(hx:look fr x=some (.slice a n c))(hy:look fr y=some (.slice none 0 0))(ht:P.underlying t=some (.slice e)):
  ∀b w,Rep N fr b->(execOp b.eval o).run P w=.ok (.value (.bool a.isNone)) w:=by
 intro b w hb;have e1:=hb.look hx;have e2:=hb.look hy
 have e3:(binOp .eql t (.slice a n c) (.slice none 0 0)).run P w=.ok (.bool a.isNone) w:=by
  exact Lib.run_eql_slice_nil w t e a n c 0 0 ht
 simp [execOp,ho,e1,e2,eqGuard,e3]
end
def wc(k:IntKind)(x y:Int):Int:=k.wrap (BitVec.ofInt k.bits x &&& BitVec.ofInt k.bits y).toNat
def bOr(k:IntKind)(x y:Int):Int:=k.wrap (BitVec.ofInt k.bits x ||| BitVec.ofInt k.bits y).toNat
def Mo(k:IntKind)(x y:Int):Int:=k.wrap (BitVec.ofInt k.bits x ^^^ BitVec.ofInt k.bits y).toNat
def wd(k:IntKind)(x y:Int):Int:=k.wrap (x*2^(min y.toNat k.bits))
def iE(k:IntKind)(x y:Int):Int:=x.fdiv (2^(min y.toNat k.bits))
def nn(y:Int):Option Unit:=if y<0 then none else some ()
theorem P9{y:Int}{u:Unit}(h:nn y=some u):¬ y<0:=by
 grind [nn]
section
variable {P:Program} {N:Nat} {fr:List (Nat×Value)}
theorem Od{t:TypeId}{k yk:IntKind}{a b:Int}(ho:o.op=.binOp .shl t x y t2)(hx:look fr x=some (.int k a))(hy:look fr y=some (.int yk b))(hb:¬ b<0):
  ∀r w,Rep N fr r->(execOp r.eval o).run P w=.ok (.value (.int k (wd k a b))) w:=by
 intro r w hr;have e1:=hr.look hx;have e2:=hr.look hy;simp [execOp,ho,e1,e2,eqGuard,binOp,Op.shift,hb,wd]
theorem Oe{t:TypeId}{k yk:IntKind}{a b:Int}(ho:o.op=.binOp .shr t x y t2)(hx:look fr x=some (.int k a))(hy:look fr y=some (.int yk b))(hb:¬ b<0):
  ∀r w,Rep N fr r->(execOp r.eval o).run P w=.ok (.value (.int k (iE k a b))) w:=by
 intro r w hr;have e1:=hr.look hx;have e2:=hr.look hy;simp [execOp,ho,e1,e2,eqGuard,binOp,Op.shift,hb,iE]
end
end
open Go.RowKit
variable {A:Item} {β:Type} {i:Nat} {α:Type} {v:Value} {sz n:Nat} {Ss:List (List Nat)} {S2:List Nat} {hi:Int} {S:List Nat} {a:Option Addr} {c:Nat} {x y:Operand} {q:Int} {T:TypeId} {o:Nat} {l:List β} {enc:α->List Value} {xs ys:List α}
section
variable {w0 w:World} {S0:List Nat} {L L':List Item}
theorem St.repart(h:St w0 S0 w L)(h1:∀(i:Nat)(it:Item),L'[i]? =some it->it.Φ w/\it.S.Nodup/\∀x∈it.S,x∈fp L)
  (h2:∀(i j:Nat)(a b:Item),i≠j->L'[i]? =some a->L'[j]? =some b->∀x∈a.S,x∉b.S):St w0 S0 w L':=
 ⟨h.chg,λi it hi=>(h1 i it hi).1,λi it hi=>(h1 i it hi).2.1,h2,λi it hi x hx=>by
  obtain ⟨j,jt,hj,hb⟩:=vw.1 ((h1 i it hi).2.2 x hx);exact h.own j jt hj x hb⟩
theorem St.swap(h:St w0 S0 w L)(k:Nat){A' B:Item}(hk:L[k]? =some A)(hA:A'.Φ w)(hAn:A'.S.Nodup)(hAs:∀b∈A'.S,b∈A.S)(hB:B.Φ w)(hBn:B.S.Nodup)(hBs:∀b∈B.S,b∈A.S)(hd:∀b∈A'.S,b∉B.S):
  St w0 S0 w (L.set k A'++[B]):=by
 have hlt:k<L.length:=(zes.1 hk).1
 have cs:∀(m:Nat)(it:Item),(L.set k A'++[B])[m]? =some it->(m=k/\it=A')\/(m=L.length/\it=B)\/(m≠k/\m<L.length/\L[m]? =some it):=by
  grind
 refine h.repart (λm it hm=> ?_) (λm n a b hmn hm hn x hxa hxb=> ?_)
 ·rcases cs m it hm with ⟨_,rfl⟩|⟨_,rfl⟩|⟨_,_,hm⟩
  ·exact ⟨hA,hAn,λx hx=>vw.2 ⟨k,_,hk,hAs x hx⟩⟩
  ·exact ⟨hB,hBn,λx hx=>vw.2 ⟨k,_,hk,hBs x hx⟩⟩
  ·exact ⟨h.all m it hm,h.nd m it hm,λx hx=>vw.2 ⟨m,it,hm,hx⟩⟩
 ·rcases cs m a hm with ⟨e1,rfl⟩|⟨e1,rfl⟩|⟨m1,m2,hm2⟩<;>rcases cs n b hn with ⟨e2,rfl⟩|⟨e2,rfl⟩|⟨n1,n2,hn2⟩
  ·omega
  ·exact hd x hxa hxb
  ·exact h.apart k n A b (λe=>n1 e.symm) hk hn2 x (hAs x hxa) hxb
  ·exact hd x hxb hxa
  ·omega
  ·exact h.apart k n A b (λe=>n1 e.symm) hk hn2 x (hBs x hxa) hxb
  ·exact h.apart m k a A m1 hm2 hk x hxa (hAs x hxb)
  ·exact h.apart m k a A m1 hm2 hk x hxa (hBs x hxb)
  ·exact h.apart m n a b hmn hm2 hn2 x hxa hxb
theorem St.fuse(h:St w0 S0 w L)(k j:Nat)(hkj:Nat.beq k j=false){B C:Item}(hk:L[k]? =some A)(hj:L[j]? =some B)(hC:C.Φ w)(hCn:C.S.Nodup)(hCs:∀b∈C.S,b∈A.S\/b∈B.S):
  St w0 S0 w ((L.set k C).set j nilI):=by
 have hne:k≠j:=p6 hkj;have hlk:k<L.length:=(zes.1 hk).1;have hlj:j<L.length:=(zes.1 hj).1
 have cs:∀(m:Nat)(it:Item),((L.set k C).set j nilI)[m]? =some it->(m=j/\it=nilI)\/(m=k/\it=C)\/(m≠k/\m≠j/\L[m]? =some it):=by
  grind
 have inS:∀x∈C.S,∃m it,(m=k\/m=j)/\L[m]? =some it/\x∈it.S:=by
  grind
 refine h.repart (λm it hm=> ?_) (λm n a b hmn hm hn x hxa hxb=> ?_)
 ·rcases cs m it hm with ⟨_,rfl⟩|⟨_,rfl⟩|⟨_,_,hm⟩
  ·exact ⟨trivial,l8,λx hx=>absurd hx znm⟩
  ·refine ⟨hC,hCn,λx hx=> ?_⟩;obtain ⟨m',it,_,h1,h2⟩:=inS x hx;exact vw.2 ⟨m',it,h1,h2⟩
  ·exact ⟨h.all m it hm,h.nd m it hm,λx hx=>vw.2 ⟨m,it,hm,hx⟩⟩
 ·rcases cs m a hm with ⟨_,rfl⟩|⟨rfl,rfl⟩|⟨m1,m2,hm2⟩
  ·exact absurd hxa znm
  ·rcases cs n b hn with ⟨_,rfl⟩|⟨rfl,rfl⟩|⟨n1,n2,hn2⟩
   ·exact absurd hxb znm
   ·exact hmn rfl
   ·obtain ⟨y,it,hy,h1,h2⟩:=inS x hxa;exact h.apart y n it b (by grind) h1 hn2 x h2 hxb
  ·rcases cs n b hn with ⟨_,rfl⟩|⟨rfl,rfl⟩|⟨n1,n2,hn2⟩
   ·exact absurd hxb znm
   ·obtain ⟨y,it,hy,h1,h2⟩:=inS x hxb;exact h.apart m y a it (by grind) hm2 h1 x hxa h2
   ·exact h.apart m n a b hmn hm2 hn2 x hxa hxb
theorem St.turn(h:St w0 S0 w L)(k:Nat){A':Item}(hk:L[k]? =some A)(hA:A'.Φ w)(hS:A'.S=A.S):St w0 S0 w (L.set k A'):=by
 have h2:=h.swap k (A':=A') (B:=nilI) hk hA (by rw [hS];exact h.nd k A hk) (by grind) trivial l8 (λb hb=>absurd hb znm) (λb _ hb=>absurd hb znm)
 have hl:(L.set k A').length<=(L.set k A'++[nilI]).length:=by simp
 refine h2.repart (λm it hm=> ?_) (λm n a b hmn hm hn=> ?_)
 ·have hm':(L.set k A'++[nilI])[m]? =some it:=by rw [x9 (zes.1 hm).1];exact hm
  exact ⟨h2.all m it hm',h2.nd m it hm',λx hx=>vw.2 ⟨m,it,hm',hx⟩⟩
 ·exact h2.apart m n a b hmn (by grind) (by grind)
end
def ak(w:World)(S:List Nat)(B:List Item):Prop:=
 (∀(i:Nat)(it:Item),B[i]? =some it->it.Φ w/\it.S.Nodup/\∀b∈it.S,b∈S)/\∀(i j:Nat)(a b:Item),i≠j->B[i]? =some a->B[j]? =some b->∀x∈a.S,x∉b.S
section
variable {w0 w:World} {S0 S S1 S2:List Nat} {L L' B B1 B2:List Item}
theorem ak.nil:ak w S []:=⟨λi it h=>by simp at h,λi j a b _ h=>by simp at h⟩
theorem aX{m:List β}{u:β}(hi:(l++m)[i]? =some u):(i<l.length/\l[i]? =some u)\/(l.length<=i/\m[i-l.length]? =some u):=by
 grind
theorem ak.cons{it:Item}(h1:it.Φ w)(h2:it.S.Nodup)(h3:∀b∈it.S,b∈S)(hd:∀b∈it.S,b∉S2)(h:ak w S2 B)(hs:∀b∈S2,b∈S):ak w S (it::B):=by
 refine ⟨λi x hi=> ?_,λi j a b hij hi hj y hy=> ?_⟩
 ·cases i with
  |zero=>simp at hi;subst hi;exact ⟨h1,h2,h3⟩
  |succ i=>obtain ⟨a1,a2,a3⟩:=h.1 i x (by simpa using hi);exact ⟨a1,a2,λb hb=>hs b (a3 b hb)⟩
 ·cases i with
  |zero=>
   cases j with
   |zero=>exact absurd rfl hij
   |succ j=>
    simp at hi;subst hi;exact λhb=>hd y hy ((h.1 j b (by simpa using hj)).2.2 y hb)
  |succ i=>
   cases j with
   |zero=>
    simp at hj;subst hj;exact λhb=>hd y hb ((h.1 i a (by simpa using hi)).2.2 y hy)
   |succ j=>exact h.2 i j a b (by omega) (by simpa using hi) (by simpa using hj) y hy
theorem St.burst(h:St w0 S0 w L)(j:Nat)(hj:L[j]? =some A)(hB:ak w A.S B):St w0 S0 w (L.set j nilI++B):=by
 have hlt:j<L.length:=(zes.1 hj).1
 have cs:∀(m:Nat)(it:Item),(L.set j nilI++B)[m]? =some it->(it=nilI)\/(m≠j/\m<L.length/\L[m]? =some it)\/(L.length<=m/\B[m-L.length]? =some it):=by
  grind
 refine h.repart (λm it hm=> ?_) (λm n a b hmn hm hn x hxa hxb=> ?_)
 ·rcases cs m it hm with rfl|⟨_,_,hm⟩|⟨_,hm⟩
  ·exact ⟨trivial,l8,λx hx=>absurd hx znm⟩
  ·exact ⟨h.all m it hm,h.nd m it hm,λx hx=>vw.2 ⟨m,it,hm,hx⟩⟩
  ·obtain ⟨a1,a2,a3⟩:=hB.1 _ it hm;exact ⟨a1,a2,λx hx=>vw.2 ⟨j,A,hj,a3 x hx⟩⟩
 ·rcases cs m a hm with rfl|⟨m1,m2,hm2⟩|⟨m1,hm2⟩
  ·exact absurd hxa znm
  ·rcases cs n b hn with rfl|⟨n1,n2,hn2⟩|⟨n1,hn2⟩
   ·exact absurd hxb znm
   ·exact h.apart m n a b hmn hm2 hn2 x hxa hxb
   ·exact h.apart m j a A m1 hm2 hj x hxa ((hB.1 _ b hn2).2.2 x hxb)
  ·rcases cs n b hn with rfl|⟨n1,n2,hn2⟩|⟨n1,hn2⟩
   ·exact absurd hxb znm
   ·exact h.apart n j b A n1 hn2 hj x hxb ((hB.1 _ a hm2).2.2 x hxa)
   ·exact hB.2 (m-L.length) (n-L.length) a b (by omega) hm2 hn2 x hxa hxb
theorem St.gather(h:St w0 S0 w L)(ids rest:List Nat)(hd:zQ (ids++rest)=true){C:Item}(hC:C.Φ w)(hn:C.S.Nodup)(hs:∀b∈C.S,b∈fp (sel L ids)):St w0 S0 w (sel L rest++[C]):=by
 have hr:∀(m:Nat)(it:Item),(sel L rest)[m]? =some it->it=nilI\/∃q,rest[m]? =some q/\L[q]? =some it:=by
  grind [et,xK]
 have hc:∀b∈C.S,∃(k q:Nat)(it:Item),ids[k]? =some q/\L[q]? =some it/\b∈it.S:=by
  intro b hb;obtain ⟨k,it,hk,hbs⟩:=vw.1 (hs b hb);obtain ⟨q,h1,h2⟩:=et hk;rcases xK h2 with h2|rfl
  ·grind
  ·exact absurd hbs znm
 have cross:∀(m:Nat)(it:Item),(sel L rest)[m]? =some it->∀x∈it.S,x∉C.S:=by
  intro m it hm x hx hxc;rcases hr m it hm with rfl|⟨q,h1,h2⟩
  ·exact absurd hx znm
  ·obtain ⟨k,q',it',h3,h4,h5⟩:=hc x hxc;have hlt:k<ids.length:=(zes.1 h3).1;have hne:q'≠q:=cj hd (i:=k) (j:=ids.length+m) (by omega) (by grind) (by grind);exact h.apart q' q it' it hne h4 h2 x h5 hx
 have cs:∀(m:Nat)(it:Item),(sel L rest++[C])[m]? =some it->(m<(sel L rest).length/\(sel L rest)[m]? =some it)\/(m=(sel L rest).length/\it=C):=by
  grind
 refine h.repart (λm it hm=> ?_) (λm n a b hmn hm hn' x hxa hxb=> ?_)
 ·rcases cs m it hm with ⟨_,hm⟩|⟨_,rfl⟩
  ·rcases hr m it hm with rfl|⟨q,h1,h2⟩
   ·exact ⟨trivial,l8,λx hx=>absurd hx znm⟩
   ·exact ⟨h.all q it h2,h.nd q it h2,λx hx=>vw.2 ⟨q,it,h2,hx⟩⟩
  ·refine ⟨hC,hn,λx hx=> ?_⟩;obtain ⟨k,q',it',h3,h4,h5⟩:=hc x hx;exact vw.2 ⟨q',it',h4,h5⟩
 ·rcases cs m a hm with ⟨_,hm2⟩|⟨m1,rfl⟩
  ·rcases cs n b hn' with ⟨_,hn2⟩|⟨_,rfl⟩
   ·rcases hr m a hm2 with rfl|⟨q,h1,h2⟩
    ·exact absurd hxa znm
    ·rcases hr n b hn2 with rfl|⟨q',h3,h4⟩
     ·exact absurd hxb znm
     ·have hne:q≠q':=cj hd (i:=ids.length+m) (j:=ids.length+n) (by omega) (by grind) (by grind);exact h.apart q q' a b hne h2 h4 x hxa hxb
   grind
  grind
end
structure Rp (α:Type) where
 sz:Nat
 own:World->List Value->List Nat->α->Prop
 rd:World->List Nat->α->List Value->Prop
 len:∀w cs S x,own w cs S x->cs.length=sz
 loc:∀w w' cs S x,(∀b∈S,w'.heap[b]? =w.heap[b]?)->own w cs S x->own w' cs S x
 lt:∀w cs S x,own w cs S x->∀b∈S,b<w.heap.size
 nd:∀w cs S x,own w cs S x->S.Nodup
 see:∀w cs S x F,own w cs S x->(∀b∈S,b∉F)->rd w F x cs
 rlen:∀w F x cs,rd w F x cs->cs.length=sz
 Tn:∀w w' F F' x cs,(∀b,b<w.heap.size->b∉F->w'.heap[b]? =w.heap[b]?)->(∀b∈F',b∈F\/w.heap.size<=b)->rd w F x cs->rd w' F' x cs
def itI(R:Rp α)(cs:List Value)(S:List Nat)(x:α):Item where
 S:=S
 Φ w:=R.own w cs S x
 loc w w' h hb:=R.loc w w' cs S x h hb
 lt w h:=R.lt w cs S x h
theorem Rd.far{w w':World}{F F':List Nat}(h:Rd w F v enc sz xs)(h1:∀b,b<w.heap.size->b∉F->w'.heap[b]? =w.heap[b]?)(h2:∀b∈F',b∈F\/w.heap.size<=b):
  Rd w' F' v enc sz xs:=by
 obtain ⟨hn,a,c,hv,hlc,hc⟩:=h;refine ⟨hn,a,c,hv,hlc,λt x f u hx hu=> ?_⟩;obtain ⟨b,o,ha,hb,hcell⟩:=hc t x f u hx hu;have hlt:b<w.heap.size:=lj hcell;refine ⟨b,o,ha,λhf=> ?_,(World.cell?_of_block (h1 b hlt hb)).trans hcell⟩;rcases h2 b hf with h3|h3
 ·exact hb h3
 ·omega
def rL(enc:α->List Value)(sz:Nat)(he:∀x,(enc x).length=sz):Rp α where
 sz:=sz
 own _ cs S x:=cs=enc x/\S=[]
 rd _ _ x cs:=cs=enc x
 len:=by rintro w cs S x ⟨rfl,_⟩;exact he x
 loc:=by rintro w w' cs S x _ h;exact h
 lt:=by rintro w cs S x ⟨_,rfl⟩;simp
 nd:=by rintro w cs S x ⟨_,rfl⟩;exact l8
 see:=by rintro w cs S x F ⟨rfl,_⟩ _;rfl
 rlen:=by rintro w F x cs rfl;exact he x
 Tn:=by rintro w w' F F' x cs _ _ h;exact h
def mU(T:TypeId)(enc:α->List Value)(sz:Nat)(he:∀x,(enc x).length=sz)(hp:0<sz):Rp (List α) where
 sz:=1
 own w cs S xs:=∃v,cs=[v]/\S=(cY v).toList/\dJ w T sz v xs.length (jQ enc xs)
 rd w F xs cs:=∃v,cs=[v]/\Rd w F v enc sz xs
 len:=by rintro w cs S x ⟨v,rfl,_⟩;rfl
 loc:=by
  rintro w w' cs S x h ⟨v,rfl,rfl,hr⟩;exact ⟨v,rfl,rfl,hr.loc h⟩
 lt:=by
  rintro w cs S x ⟨v,rfl,rfl,hr⟩;exact hr.lt
 nd:=by
  rintro w cs S x ⟨v,rfl,rfl,hr⟩;exact cI
 see:=by
  rintro w cs S x F ⟨v,rfl,rfl,hr⟩ hF;exact ⟨v,rfl,kG he hr hF⟩
 rlen:=by rintro w F x cs ⟨v,rfl,_⟩;rfl
 Tn:=by rintro w w' F F' x cs h1 h2 ⟨v,rfl,h⟩;exact ⟨v,rfl,h.far h1 h2⟩
def jp(A:Rp α)(B:Rp β):Rp (α×β) where
 sz:=A.sz+B.sz
 own w cs S p:=∃c1 c2 S1 S2,cs=c1++c2/\S=S1++S2/\(∀b∈S1,b∉S2)/\A.own w c1 S1 p.1/\B.own w c2 S2 p.2
 rd w F p cs:=∃c1 c2,cs=c1++c2/\A.rd w F p.1 c1/\B.rd w F p.2 c2
 len:=by
  rintro w cs S x ⟨c1,c2,S1,S2,rfl,rfl,_,h1,h2⟩;rw [p5,A.len _ _ _ _ h1,B.len _ _ _ _ h2]
 loc:=by
  rintro w w' cs S x h ⟨c1,c2,S1,S2,rfl,rfl,hd,h1,h2⟩;exact ⟨c1,c2,S1,S2,rfl,rfl,hd,A.loc w w' _ _ _ (λb hb=>h b (zal _ hb)) h1,B.loc w w' _ _ _ (λb hb=>h b (zar _ hb)) h2⟩
 lt:=by
  rintro w cs S x ⟨c1,c2,S1,S2,rfl,rfl,hd,h1,h2⟩ b hb;rcases i5.1 hb with hb|hb
  ·exact A.lt _ _ _ _ h1 b hb
  ·exact B.lt _ _ _ _ h2 b hb
 nd:=by
  rintro w cs S x ⟨c1,c2,S1,S2,rfl,rfl,hd,h1,h2⟩;exact k7.2 ⟨A.nd _ _ _ _ h1,B.nd _ _ _ _ h2,λa ha b hb e=>by subst e;exact hd a ha hb⟩
 see:=by
  rintro w cs S x F ⟨c1,c2,S1,S2,rfl,rfl,hd,h1,h2⟩ hF;exact ⟨c1,c2,rfl,A.see _ _ _ _ F h1 (λb hb=>hF b (zal _ hb)),B.see _ _ _ _ F h2 (λb hb=>hF b (zar _ hb))⟩
 rlen:=by
  rintro w F x cs ⟨c1,c2,rfl,h1,h2⟩;rw [p5,A.rlen _ _ _ _ h1,B.rlen _ _ _ _ h2]
 Tn:=by
  rintro w w' F F' x cs k1 k2 ⟨c1,c2,rfl,h1,h2⟩;exact ⟨c1,c2,rfl,A.Tn w w' F F' _ _ k1 k2 h1,B.Tn w w' F F' _ _ k1 k2 h2⟩
def fit(n:Nat)(cs:List Value):List Value:=cs.take n++List.replicate (n-cs.length) undef
theorem cZ(n:Nat)(cs:List Value):(fit n cs).length=n:=by simp [fit];omega
theorem rz{cs:List Value}(h:cs.length=n):fit n cs=cs:=by subst h;simp [fit]
theorem aK{S':List Nat}:∀{i:Nat},Ss.flatten.Nodup->S'.Nodup->(∀(k:Nat)(S:List Nat),k≠i->Ss[k]? =some S->∀b∈S',b∉S)->(Ss.set i S').flatten.Nodup:=by
 induction Ss with
 |nil=>intro i h _ _;simp
 |cons T r ih=>
  intro i h hS hx;simp only [yd] at h;obtain ⟨n1,n2,n3⟩:=k7.1 h;cases i with
  |zero=>
   simp only [List.set_cons_zero,yd];refine k7.2 ⟨hS,n2,λa ha b hb e=> ?_⟩;subst e;obtain ⟨S,hSr,hb⟩:=k6.1 hb;obtain ⟨k,hk,rfl⟩:=t9.1 hSr;exact hx (k+1) _ (by omega) (by simp) a ha hb
  |succ i=>
   simp only [List.set_cons_succ,yd];refine k7.2 ⟨n1,ih n2 hS (λk S hk hSk=>hx (k+1) S (by omega) (by simpa using hSk)),λa ha b hb e=> ?_⟩;subst e;obtain ⟨S,hSr,hb2⟩:=k6.1 hb;rcases p9 hSr with hSr|rfl
   ·exact n3 a ha a (k6.2 ⟨S,hSr,hb2⟩) rfl
   ·exact hx 0 T (by omega) rfl a hb2 ha
theorem jU{S':List Nat}{b:Nat}(h:b∈(Ss.set i S').flatten):b∈S'\/b∈Ss.flatten:=by
 obtain ⟨S,hS,hb⟩:=k6.1 h;rcases p9 hS with hS|rfl
 ·exact .inr (k6.2 ⟨S,hS,hb⟩)
 ·exact .inl hb
theorem oZ(h:Ss.flatten.Nodup):∀{i j:Nat} {A B:List Nat},i≠j->Ss[i]? =some A->Ss[j]? =some B->∀b∈A,b∉B:=by
 induction Ss with
 |nil=>intro i j A B _ hi;simp at hi
 |cons T r ih=>
  intro i j A B hij hi hj b hb hb2;simp only [yd] at h;obtain ⟨n1,n2,n3⟩:=k7.1 h;cases i with
  |zero=>
   cases j with
   |zero=>exact hij rfl
   |succ j=>
    simp only [z8,g9] at hi;subst hi;exact n3 b hb b (k6.2 ⟨B,zmg (by simpa using hj),hb2⟩) rfl
  |succ i=>
   cases j with
   |zero=>
    simp only [z8,g9] at hj;subst hj;exact n3 b hb2 b (k6.2 ⟨A,zmg (by simpa using hi),hb⟩) rfl
   |succ j=>exact ih n2 (i:=i) (j:=j) (by omega) (by simpa using hi) (by simpa using hj) b hb hb2
theorem mM{t:Int}{x:β}(h:idx l t=some x):l.set t.toNat x=l:=by
 have:=(zU h).2.2;apply m6
 grind
theorem N9{a b:β}(h:(List.replicate n a)[i]? =some b):i<n/\a=b:=by
 grind
theorem Gu{c0 cs:List Value}(h:cs.length=n):qG (fit n c0) cs 0=fit n cs:=by
 grind [cZ,fit,qG,rz]
structure uA {α:Type} (w:World) (T:TypeId) (R:Rp α) (v:Value) (S:List Nat) (xs:List α) (ho:Option (Nat×List Value)) (css:List (List Value)) (Ss:List (List Nat)):Prop where
 row:dJ w T R.sz v xs.length (jQ (fit R.sz) css)
 lc:css.length=xs.length
 ls:Ss.length=xs.length
 hS:S=(cY v).toList++Ss.flatten
 nd:S.Nodup
 out:∀t cs,ho=some (t,cs)->cs.length=R.sz/\css[t]? =some cs/\Ss[t]? =some []
 own:∀(i:Nat)(cs:List Value)(S':List Nat)(x:α),(∀c,ho≠some (i,c))->css[i]? =some cs->Ss[i]? =some S'->xs[i]? =some x->R.own w cs S' x
section
variable {α:Type} {w w':World} {T:TypeId} {R:Rp α} {v:Value} {S:List Nat} {xs:List α} {ho:Option (Nat×List Value)} {css:List (List Value)} {Ss:List (List Nat)}
theorem uA.lt(h:uA w T R v S xs ho css Ss):∀b∈S,b<w.heap.size:=by
 intro b hb;rw [h.hS] at hb;rcases i5.1 hb with hb|hb
 ·exact h.row.lt b hb
 ·obtain ⟨S',hS',hb⟩:=k6.1 hb;obtain ⟨i,hi,rfl⟩:=t9.1 hS';have h1:i<css.length:=by rw [h.lc,<- h.ls];exact hi
  have h2:i<xs.length:=by rw [<- h.ls];exact hi
  by_cases hq:∃c,ho=some (i,c)
  ·obtain ⟨c,hc⟩:=hq;have:=(h.out i c hc).2.2
   grind
  ·exact R.lt _ _ _ _ (h.own i _ _ _ (λc hc=>hq ⟨c,hc⟩) (zeg h1) (zeg hi) (zeg h2)) b hb
theorem uA.loc(h:uA w T R v S xs ho css Ss)(hb:∀b∈S,w'.heap[b]? =w.heap[b]?):uA w' T R v S xs ho css Ss:=by
 have hS:=h.hS;refine ⟨h.row.loc (λb hbv=>hb b (by grind)),h.lc,h.ls,h.hS,h.nd,h.out,λi cs S' x h1 h2 h3 h4=>R.loc w w' cs S' x (λb hbs=>hb b ?_) (h.own i cs S' x h1 h2 h3 h4)⟩;rw [hS];exact zar _ (k6.2 ⟨S',zmg h3,hbs⟩)
theorem vA{z u:β}{t:Nat}(hi:(l.set t z)[i]? =some u):(i=t/\u=z)\/(i≠t/\l[i]? =some u):=by
 grind
theorem uA.take(h:uA w T R v S xs none css Ss){t:Nat}{x:α}(hx:xs[t]? =some x):
  ∃cs S1 S2,css[t]? =some cs/\cs.length=R.sz/\R.own w cs S2 x/\uA w T R v S1 xs (some (t,cs)) css (Ss.set t [])/\(∀b∈S2,b∈S)/\(∀b∈S1,b∈S)/\∀b∈S1,b∉S2:=by
 have hl:=(zes.1 hx).1;have a1:t<css.length:=by rw [h.lc];exact hl
 have a2:t<Ss.length:=by rw [h.ls];exact hl
 have hn:=h.nd;rw [h.hS] at hn;obtain ⟨n1,n2,n3⟩:=k7.1 hn;have hown:=h.own t css[t] Ss[t] x (by simp) (zeg a1) (zeg a2) hx
 have hsub:∀b∈(Ss.set t []).flatten,b∈Ss.flatten:=λb hb=>by
  rcases jU hb with hb|hb
  ·grind
  ·exact hb
 have n2':(Ss.set t []).flatten.Nodup:=aK n2 l8 (λ_ _ _ _ b hb=>absurd hb znm);refine ⟨css[t],(cY v).toList++(Ss.set t []).flatten,Ss[t],zeg a1,R.len _ _ _ _ hown,hown,⟨h.row,h.lc,by rw [j7];exact h.ls,rfl,?_,λq c e=> ?_,λi cs S' y h1 h2 h3 h4=> ?_⟩,λb hb=> ?_,λb hb=> ?_,λb hb hb2=> ?_⟩
 ·grind
 ·simp only [g9,o7] at e;obtain ⟨rfl,rfl⟩:=e;exact ⟨R.len _ _ _ _ hown,zeg a1,by grind⟩
 ·rcases vA h3 with ⟨rfl,rfl⟩|⟨hne,h3⟩
  ·grind
  ·exact h.own i cs S' y (by simp) h2 h3 h4
 ·rw [h.hS];exact zar _ (k6.2 ⟨Ss[t],ym a2,hb⟩)
 ·rw [h.hS]
  grind
 ·rcases i5.1 hb with hb|hb
  ·exact n3 b hb b (k6.2 ⟨Ss[t],ym a2,hb2⟩) rfl
  ·obtain ⟨S',hS',hb⟩:=k6.1 hb;obtain ⟨i,hi,rfl⟩:=t9.1 hS';rcases vA (zeg hi) with ⟨_,e⟩|⟨hne,hi2⟩
   ·grind
   ·exact oZ n2 hne hi2 (zeg a2) b hb hb2
theorem uA.give(h:uA w T R v S xs ho css Ss){t:Nat}{cs:List Value}{x y:α}(hho:∀i c,ho=some (i,c)->i=t)(hy:xs[t]? =some y)(hx:R.own w' cs S2 x)(hd:∀b∈S,b∉S2)
  (hw:∀b∈Ss.flatten,w'.heap[b]? =w.heap[b]?) (hrow:dJ w' T R.sz v xs.length (jQ (fit R.sz) (css.set t cs))):uA w' T R v ((cY v).toList++(Ss.set t S2).flatten) (xs.set t x) none (css.set t cs) (Ss.set t S2):=by
 have hn:=h.nd;rw [h.hS] at hn;obtain ⟨n1,n2,n3⟩:=k7.1 hn;have hS:=h.hS;refine ⟨by rw [j7];exact hrow,by rw [j7,j7];exact h.lc,by rw [j7,j7];exact h.ls,rfl,?_,(λ_ _ e=>by cases e),λi c S' z _ h2 h3 h4=> ?_⟩
 ·refine k7.2 ⟨n1,aK n2 (R.nd _ _ _ _ hx) (λk T' _ hT b hb hb2=>hd b (by rw [hS];exact zar _ (k6.2 ⟨T',zmg hT,hb2⟩)) hb),λa ha b hb e=> ?_⟩
  subst e;rcases jU hb with hb|hb
  ·exact hd a (by rw [hS];exact zal _ ha) hb
  ·exact n3 a ha a hb rfl
 ·rcases vA h3 with ⟨rfl,rfl⟩|⟨hne,h3⟩
  ·rcases vA h2 with ⟨_,rfl⟩|⟨hne,_⟩
   ·rcases vA h4 with ⟨_,rfl⟩|⟨hne,_⟩
    ·exact hx
    ·exact absurd rfl hne
   ·exact absurd rfl hne
  ·rcases vA h2 with ⟨e,_⟩|⟨_,h2⟩
   ·exact absurd e hne
   ·rcases vA h4 with ⟨e,_⟩|⟨_,h4⟩
    ·exact absurd e hne
    ·exact R.loc w w' c S' z (λb hb=>hw b (k6.2 ⟨S',zmg h3,hb⟩)) (h.own i c S' z (λc' e=>hne (hho i c' e)) h2 h3 h4)
theorem uA.app{v':Value}{v2:Value}{ys:List α}{css2:List (List Value)}{Ss2:List (List Nat)}(h:uA w T R v S xs none css Ss)(h2:uA w T R v2 S2 ys none css2 Ss2)(hd:∀b∈S,b∉S2)
  (hw:∀b∈Ss.flatten++Ss2.flatten,w'.heap[b]? =w.heap[b]?) (hat:cY v'=cY v\/cY v'=some w.heap.size) (hrow:dJ w' T R.sz v' (xs.length+ys.length) (jQ (fit R.sz) css++jQ (fit R.sz) css2)):
  uA w' T R v' ((cY v').toList++(Ss++Ss2).flatten) (xs++ys) none (css++css2) (Ss++Ss2):=by
 have hn:=h.nd;rw [h.hS] at hn;obtain ⟨n1,n2,n3⟩:=k7.1 hn;have hn2:=h2.nd;rw [h2.hS] at hn2;obtain ⟨m1,m2,m3⟩:=k7.1 hn2;have lc:=h.lc;have ls:=h.ls;have lc2:=h2.lc;have ls2:=h2.ls;refine ⟨by grind [tM],by simp;omega,by simp;omega,rfl,?_,(λ_ _ e=>by cases e),λi c S' z _ g2 g3 g4=> ?_⟩
 ·rw [yp];refine k7.2 ⟨cI,k7.2 ⟨n2,m2,λa ha b hb e=> ?_⟩,λa ha b hb e=> ?_⟩
  ·subst e;exact hd a (by rw [h.hS];exact zar _ ha) (by rw [h2.hS];exact zar _ hb)
  ·subst e;rcases hat with hat|hat
   ·rw [hat] at ha;rcases i5.1 hb with hb|hb
    ·grind
    ·exact hd a (by rw [h.hS];exact zal _ ha) (by rw [h2.hS];exact zar _ hb)
   ·rw [hat] at ha;simp at ha
    have hlt:a<w.heap.size:=by
     rcases i5.1 hb with hb|hb
     ·exact h.lt a (by rw [h.hS];exact zar _ hb)
     ·exact h2.lt a (by rw [h2.hS];exact zar _ hb)
    omega
 ·rcases aX g2 with ⟨l1,g2⟩|⟨l1,g2⟩
  ·rcases aX g3 with ⟨l2,g3⟩|⟨l2,g3⟩
   ·rcases aX g4 with ⟨l3,g4⟩|⟨l3,g4⟩
    ·exact R.loc w w' c S' z (λb hb=>hw b (zal _ (k6.2 ⟨S',zmg g3,hb⟩))) (h.own i c S' z (by simp) g2 g3 g4)
    ·omega
   ·omega
  ·rcases aX g3 with ⟨l2,g3⟩|⟨l2,g3⟩
   ·omega
   ·rcases aX g4 with ⟨l3,g4⟩|⟨l3,g4⟩
    ·omega
    ·rw [show i-Ss.length=i-css.length by omega] at g3;rw [show i-xs.length=i-css.length by omega] at g4;exact R.loc w w' c S' z (λb hb=>hw b (zar _ (k6.2 ⟨S',zmg g3,hb⟩))) (h2.own (i-css.length) c S' z (by simp) g2 g3 g4)
end
def nI(T:TypeId)(R:Rp α)(v:Value)(S:List Nat)(xs:List α)(ho:Option (Nat×List Value)):Item where
 S:=S
 Φ w:=∃css Ss,uA w T R v S xs ho css Ss
 loc w w' hb h:=by obtain ⟨css,Ss,h⟩:=h;exact ⟨css,Ss,h.loc hb⟩
 lt w h:=by obtain ⟨css,Ss,h⟩:=h;exact h.lt
theorem RdN.far{R:Rp α}{w w':World}{F F':List Nat}(hp:0<R.sz)(h:RdN w F v R.rd R.sz xs)(h1:∀b,b<w.heap.size->b∉F->w'.heap[b]? =w.heap[b]?)(h2:∀b∈F',b∈F\/w.heap.size<=b):RdN w' F' v R.rd R.sz xs:=by
 obtain ⟨hn,a,c,hv,hlc,hc⟩:=h;refine ⟨hn,a,c,hv,hlc,λt x hx=> ?_⟩;obtain ⟨cs,hDx,b,o,ha,hb,hcell⟩:=hc t x hx;have hl:=R.rlen _ _ _ _ hDx;have hlt:b<w.heap.size:=lj (hcell 0 cs[0] (zeg (by omega)));refine ⟨cs,R.Tn _ _ _ _ _ _ h1 h2 hDx,b,o,ha,λhf=> ?_,λf u hu=>(World.cell?_of_block (h1 b hlt hb)).trans (hcell f u hu)⟩;rcases h2 b hf with h3|h3
 ·exact hb h3
 ·omega
theorem uA.see{α:Type}{w:World}{T:TypeId}{R:Rp α}{v:Value}{S:List Nat}{xs:List α}{css:List (List Value)}{Ss:List (List Nat)}(h:uA w T R v S xs none css Ss){F:List Nat}(hF:∀b∈S,b∉F):RdN w F v R.rd R.sz xs:=by
 have hS:=h.hS
 have hrd:Rd w F v (fit R.sz) R.sz css:=by
  have hrow:=h.row;rw [<- h.lc] at hrow;exact kG (λx=>cZ _ x) hrow (λb hb=>hF b (by rw [hS];exact zal _ hb))
 obtain ⟨hn,a,c,hv,hlc,hc⟩:=hrd;refine ⟨by rw [<- h.lc];exact hn,a,c,by rw [hv,h.lc],by rw [<- h.lc];exact hlc,λt x hx=> ?_⟩
 have hl:=(zes.1 hx).1;have a1:t<css.length:=by rw [h.lc];exact hl
 have a2:t<Ss.length:=by rw [h.ls];exact hl
 have hown:=h.own t css[t] Ss[t] x (by simp) (zeg a1) (zeg a2) hx;have hlen:=R.len _ _ _ _ hown;refine ⟨css[t],R.see _ _ _ _ F hown (λb hb=>hF b (by rw [hS];exact zar _ (k6.2 ⟨Ss[t],ym a2,hb⟩))),?_⟩
 rcases h.row.2 with ⟨h0,_⟩|⟨g,o,cap,cur,rfl,hp,hg,hnc,hm,hcs,htake⟩
 ·omega
 ·simp only [Value.slice.injEq] at hv;obtain ⟨rfl,_,_⟩:=hv;refine ⟨g,o,rfl,hF g (by rw [hS];exact zal _ (by simp [xL hp])),λf u hu=> ?_⟩
  obtain ⟨b',o',hb',_,hcell⟩:=hc t css[t] f u (zeg a1) (by rw [rz hlen];exact hu)
  simp only [g9,Addr.mk.injEq,and_true] at hb';obtain ⟨rfl,rfl⟩:=hb';exact hcell
def shd(a:Option Addr)(c lo sz:Nat):Option Addr:=if c=lo then a else a.map (·.add (lo*sz))
theorem Oa{lo:Int}(h:cut xs lo hi=some ys){t:Nat}{x:α}(hx:ys[t]? =some x):xs[lo.toNat+t]? =some x:=by
 obtain ⟨h0,h1,h2,rfl⟩:=aY h
 grind
theorem Rd.part{w:World}{lo:Int}(h:Rd w S (.slice a n c) enc sz xs)(hc:cut xs lo hi=some ys):
  Rd w S (.slice (shd a c lo.toNat sz) ys.length (c-lo.toNat)) enc sz ys:=by
 obtain ⟨hn,a',c',hv,hlc,hcell⟩:=h;simp only [Value.slice.injEq] at hv;obtain ⟨rfl,rfl,rfl⟩:=hv;obtain ⟨h0,h1,h2,_⟩:=aY hc;have hl:=iP hc;refine ⟨by omega,_,_,rfl,by omega,λt x f u hx hu=> ?_⟩
 grind [Oa,shd,dy]
theorem Rd.pre{w:World}(h:Rd w S (.slice a n c) enc sz xs)(hc:cut xs 0 hi=some ys):Rd w S (.slice a ys.length c) enc sz ys:=by
 have h2:=h.part hc
 have e:shd a c (Int.toNat 0) sz=a:=by
  unfold shd;split
  ·rfl
  ·cases a with
   |none=>rfl
   |some z=>simp [Addr.add]
 grind
section
variable {P:Program} {N:Nat} {fr:List (Nat×Value)}
theorem fN{o:Oper}{t e:TypeId}{kd:IntKind}(sz:Nat)(ho:o.op=.slice t x (some y) none none)(hx:look fr x=some (.slice a n c))(hn:n=xs.length)(hy:look fr y=some (.int kd q))
  (hc:cut xs q (xs.length:Int)=some ys) (ht:P.underlying t=some (.slice e)) (hs:aj P (sizeOf e)=some sz):∀b w,Rep N fr b->(execOp b.eval o).run P w=.ok (.value (.slice (shd a c q.toNat sz) ys.length (c-q.toNat))) w:=by
 intro b w hb;have e1:=hb.look hx;have e2:=hb.look hy;obtain ⟨h0,h1,h2,_⟩:=aY hc;have hl:=iP hc;subst hn;have h3:0<=q/\q<=(xs.length:Int):=⟨h0,h1⟩
 have e3:xs.length-q.toNat=ys.length:=by omega
 simp [execOp,ho,Instr.sliceAt,Instr.slice,Instr.sliceBounds,Instr.sliceBound,run_underlying ht,e1,e2,asIntOf,h3,qV hs,e3,shd]
theorem D5{o:Oper}{t e:TypeId}{z:Operand}{r:Int}{kd ke:IntKind}(sz:Nat)(ho:o.op=.slice t x (some y) (some z) none)(hx:look fr x=some (.slice a n c))(hy:look fr y=some (.int kd q))(hz:look fr z=some (.int ke r))
  (hc:cut xs q r=some ys) (hcap:xs.length<=c) (ht:P.underlying t=some (.slice e)) (hs:aj P (sizeOf e)=some sz):∀b w,Rep N fr b->(execOp b.eval o).run P w=.ok (.value (.slice (shd a c q.toNat sz) ys.length (c-q.toNat))) w:=by
 intro b w hb;have e1:=hb.look hx;have e2:=hb.look hy;have e4:=hb.look hz;obtain ⟨h0,h1,h2,_⟩:=aY hc;have hl:=iP hc;have h3:0<=r/\r<=(c:Int):=⟨by omega,by omega⟩
 have h5:0<=q/\q<=r:=⟨h0,h1⟩
 have h6:(r.toNat:Int)=r:=by omega
 have e3:r.toNat-q.toNat=ys.length:=by omega
 simp [execOp,ho,Instr.sliceAt,Instr.slice,Instr.sliceBounds,Instr.sliceBound,run_underlying ht,e1,e2,e4,asIntOf,h3,h5,h6,qV hs,e3,shd]
end
theorem Rd.cap{w:World}(h:Rd w S (.slice a n c) enc sz xs):xs.length<=c:=by
 obtain ⟨_,a',c',hv,hlc,_⟩:=h
 grind
def kH(T:TypeId)(R:Rp α)(hp:0<R.sz):Rp (List α) where
 sz:=1
 own w cs S xs:=∃v,cs=[v]/\∃css Ss,uA w T R v S xs none css Ss
 rd w F xs cs:=∃v,cs=[v]/\RdN w F v R.rd R.sz xs
 len:=by rintro w cs S x ⟨v,rfl,_⟩;rfl
 loc:=by rintro w w' cs S x h ⟨v,rfl,css,Ss,hr⟩;exact ⟨v,rfl,css,Ss,hr.loc h⟩
 lt:=by rintro w cs S x ⟨v,rfl,css,Ss,hr⟩;exact hr.lt
 nd:=by rintro w cs S x ⟨v,rfl,css,Ss,hr⟩;exact hr.nd
 see:=by rintro w cs S x F ⟨v,rfl,css,Ss,hr⟩ hF;exact ⟨v,rfl,hr.see hF⟩
 rlen:=by rintro w F x cs ⟨v,rfl,_⟩;rfl
 Tn:=by rintro w w' F F' x cs h1 h2 ⟨v,rfl,h⟩;exact ⟨v,rfl,h.far hp h1 h2⟩
def vC(T:TypeId)(R:Rp α):Rp α where
 sz:=1
 own w cs S x:=∃b cs' S',cs=[.pointer (some ⟨b,0,none⟩)]/\S=b::S'/\b∉S'/\w.heap[b]? =some (.cells cs'.toArray T (0,0))/\R.own w cs' S' x
 rd w F x cs:=∃b cs',cs=[.pointer (some ⟨b,0,none⟩)]/\b∉F/\w.heap[b]? =some (.cells cs'.toArray T (0,0))/\R.rd w F x cs'
 len:=by rintro w cs S x ⟨b,cs',S',rfl,_⟩;rfl
 loc:=by
  rintro w w' cs S x h ⟨b,cs',S',rfl,rfl,hb,hh,hr⟩;exact ⟨b,cs',S',rfl,rfl,hb,by rw [h b zcs];exact hh,R.loc w w' _ _ _ (λc hc=>h c (zcm _ hc)) hr⟩
 lt:=by
  rintro w cs S x ⟨b,cs',S',rfl,rfl,hb,hh,hr⟩ c hc;rcases j5.1 hc with rfl|hc
  ·exact (w7.1 hh).1
  ·exact R.lt _ _ _ _ hr c hc
 nd:=by
  rintro w cs S x ⟨b,cs',S',rfl,rfl,hb,hh,hr⟩;exact r9.2 ⟨hb,R.nd _ _ _ _ hr⟩
 see:=by
  rintro w cs S x F ⟨b,cs',S',rfl,rfl,hb,hh,hr⟩ hF;exact ⟨b,cs',rfl,hF b zcs,hh,R.see _ _ _ _ F hr (λc hc=>hF c (zcm _ hc))⟩
 rlen:=by rintro w F x cs ⟨b,cs',rfl,_⟩;rfl
 Tn:=by
  rintro w w' F F' x cs h1 h2 ⟨b,cs',rfl,hb,hh,hr⟩;have hlt:=(w7.1 hh).1;refine ⟨b,cs',rfl,λhf=> ?_,by rw [h1 b hlt hb];exact hh,R.Tn w w' F F' x cs' h1 h2 hr⟩
  rcases h2 b hf with h3|h3
  ·exact hb h3
  ·omega
def AD{α:Type}(T:TypeId)(R:Rp α):Rp (Option α) where
 sz:=1
 own w cs S x:=match x with
  |none=>cs=[.pointer none]/\S=[]
  |some y=>(vC T R).own w cs S y
 rd w F x cs:=match x with
  |none=>cs=[.pointer none]
  |some y=>(vC T R).rd w F y cs
 len:=by
  rintro w cs S (_|x) h
  ·rw [h.1];rfl
  ·exact (vC T R).len w cs S x h
 loc:=by
  rintro w w' cs S (_|x) hb h
  ·exact h
  ·exact (vC T R).loc w w' cs S x hb h
 lt:=by
  rintro w cs S (_|x) h
  ·rw [h.2];simp
  ·exact (vC T R).lt w cs S x h
 nd:=by
  rintro w cs S (_|x) h
  ·rw [h.2];exact l8
  ·exact (vC T R).nd w cs S x h
 see:=by
  rintro w cs S (_|x) F h hF
  ·exact h.1
  ·exact (vC T R).see w cs S x F h hF
 rlen:=by
  rintro w F (_|x) cs h
  ·rw [show cs=[.pointer none] from h];rfl
  ·exact (vC T R).rlen w F x cs h
 Tn:=by
  rintro w w' F F' (_|x) cs h1 h2 h
  ·exact h
  ·exact (vC T R).Tn w w' F F' x cs h1 h2 h
def qL(f:α->List Value->List Value)(sz:Nat)(hl:∀x vs,(f x vs).length=sz)(g:α->β)(R:Rp β):Rp α where
 sz:=sz
 own w cs S x:=∃vs,cs=f x vs/\R.own w vs S (g x)
 rd w F x cs:=∃vs,cs=f x vs/\R.rd w F (g x) vs
 len:=by rintro w cs S x ⟨vs,rfl,_⟩;exact hl x vs
 loc:=by rintro w w' cs S x hb ⟨vs,rfl,h⟩;exact ⟨vs,rfl,R.loc w w' _ _ _ hb h⟩
 lt:=by rintro w cs S x ⟨vs,rfl,h⟩;exact R.lt _ _ _ _ h
 nd:=by rintro w cs S x ⟨vs,rfl,h⟩;exact R.nd _ _ _ _ h
 see:=by rintro w cs S x F ⟨vs,rfl,h⟩ hF;exact ⟨vs,rfl,R.see _ _ _ _ F h hF⟩
 rlen:=by rintro w F x cs ⟨vs,rfl,_⟩;exact hl x vs
 Tn:=by rintro w w' F F' x cs h1 h2 ⟨vs,rfl,h⟩;exact ⟨vs,rfl,R.Tn w w' F F' _ _ h1 h2 h⟩
theorem Rd.isnil{w:World}(h:Rd w S (.slice a n c) enc sz xs)(he:∀x,∃u,(enc x)[0]? =some u)(ha:a.isNone=true):xs=[]:=by
 cases xs with
 |nil=>rfl
 |cons x r=>
  obtain ⟨_,a',c',hv,_,hc⟩:=h;obtain ⟨u,hu⟩:=he x;obtain ⟨b,o,e,_⟩:=hc 0 x 0 u rfl hu
  grind
theorem iD{R:Rp α}{w:World}{cs:List Value}{x:α}(h:(vC T R).own w cs S x):eA cs=true:=by
 obtain ⟨b,cs',S',rfl,_⟩:=h;rfl
theorem Fv{he:∀x,(enc x).length=sz}{hp:0<sz}{w:World}{cs:List Value}{x:List α}(h:(mU T enc sz he hp).own w cs S x):eA cs=true:=by
 obtain ⟨v,rfl,rfl,hr⟩:=h;rcases hr.2 with ⟨_,a,rfl⟩|⟨g,o,cap,cur,rfl,_⟩<;>rfl
section
variable {w0 w:World} {S0:List Nat} {L:List Item} {α:Type} {R:Rp α}
theorem St.toIt{enc:α->List Value}{ys:List α}(h:St w0 S0 w L)(j:Nat)(hj:L[j]? =some (qi v T enc sz ys))(he:∀x,(enc x).length=sz)(hp:0<sz):
 St w0 S0 w (L.set j (itI (mU T enc sz he hp) [v] (cY v).toList ys)):=h.turn j hj ⟨v,rfl,rfl,h.all j _ hj⟩ rfl
theorem St.toRow{cs:List Value}{enc:α->List Value}{ys:List α}{he:∀x,(enc x).length=sz}{hp:0<sz}(h:St w0 S0 w L)(j:Nat)(hj:L[j]? =some (itI (mU T enc sz he hp) cs S ys)):
  ∃v,cs=[v]/\St w0 S0 w (L.set j (qi v T enc sz ys)):=by
 obtain ⟨v,rfl,rfl,hr⟩:=h.all j _ hj;exact ⟨v,rfl,h.turn j hj hr rfl⟩
theorem St.seeN{xs:List α}(h:St w0 S0 w L)(j:Nat)(hj:L[j]? =some (nI T R v S xs none))(ids:List Nat)(hn:mem? j ids=false):RdN w (fp (sel L ids)) v R.rd R.sz xs:=by
 obtain ⟨css,Ss,hr⟩:=h.all j _ hj;exact hr.see (h.noin j hj ids hn)
theorem RdN.give{xs:List α}(hp:0<R.sz)(h:RdN w0 S0 v R.rd R.sz xs)(hst:St w0 S0 w L)(ids:List Nat):RdN w (fp (sel L ids)) v R.rd R.sz xs:=by
 refine h.far hp (λb h1 h2=>hst.chg.block b h1 h2) (λb hf=> ?_);obtain ⟨j,it,hj,hbs⟩:=vw.1 hf;obtain ⟨k,_,hk⟩:=et hj;rcases xK hk with hk|rfl
 ·exact hst.own k it hk b hbs
 ·cases hbs
end
section
variable {w0 w:World} {S0:List Nat} {L:List Item} {α:Type} {T:TypeId} {R:Rp α} {v:Value} {S:List Nat} {xs:List α} {ho:Option (Nat×List Value)}
theorem St.nlen(h:St w0 S0 w L)(j:Nat)(hj:L[j]? =some (nI T R v S xs ho)):xs.length<=9223372036854775807/\∃a c,v=.slice a xs.length c:=by
 obtain ⟨css,Ss,hr⟩:=h.all j _ hj;rcases hr.row.2 with ⟨hn,a,rfl⟩|⟨g,o,cap,cur,rfl,_,hg,hnc,hm,_,htake⟩
 ·grind
 ·refine ⟨?_,_,_,rfl⟩;simp only [maxLen] at hm;omega
theorem St.nrowv(h:St w0 S0 w L)(j:Nat)(hj:L[j]? =some (nI T R v S xs ho)){t:Int}{x:α}(hx:idx xs t=some x):∃g o cap,v=.slice (some ⟨g,o,none⟩) xs.length cap:=by
 obtain ⟨css,Ss,hr⟩:=h.all j _ hj;obtain ⟨h0,h1,h2⟩:=zU hx;rcases hr.row.2 with ⟨hn,a,rfl⟩|⟨g,o,cap,cur,rfl,_⟩
 ·omega
 grind
theorem uA.cells{css:List (List Value)}(hr:uA w T R v S xs ho css Ss){t:Nat}{cs:List Value}(hc:css[t]? =some cs)(hl:cs.length=R.sz){g cap:Nat}(hv:v=.slice (some ⟨g,o,none⟩) n cap):∀f u,cs[f]? =some u->w.cell? ⟨g,o+t*R.sz+f,none⟩=some u:=by
 intro f u hu;have ht:=(zes.1 hc).1;have hlc:=hr.lc;rcases hr.row.2 with ⟨hn,_⟩|⟨g',o',cap',cur,rfl,_,hg,_,_,_,htake⟩
 ·omega
 ·simp only [Value.slice.injEq,g9,Addr.mk.injEq,and_true] at hv;obtain ⟨⟨rfl,rfl⟩,_,_⟩:=hv;have:=mR (λx=>cZ R.sz x) hc (u:=u) (f:=f) (by rw [rz hl];exact hu)
  rw [<- htake,List.getElem?_take] at this;split at this
  ·rw [cell_of_row w g' _ cur T (0,0) hg,yq];rw [List.getElem?_drop] at this
   simpa using this
  ·cases this
theorem St.nout(h:St w0 S0 w L)(j:Nat)(hj:L[j]? =some (nI T R v S xs none)){t:Int}{x:α}(hx:idx xs t=some x){g cap:Nat}(hv:v=.slice (some ⟨g,o,none⟩) n cap):
  ∃cs S1 S2,cs.length=R.sz/\(∀f u,cs[f]? =some u->w.cell? ⟨g,o+t.toNat*R.sz+f,none⟩=some u)/\St w0 S0 w (L.set j (nI T R v S1 xs (some (t.toNat,cs)))++[itI R cs S2 x]):=by
 obtain ⟨css,Ss,hr⟩:=h.all j _ hj;obtain ⟨cs,S1,S2,hc,hl,hown,hr2,h1,h2,h3⟩:=hr.take (zU hx).2.2;exact ⟨cs,S1,S2,hl,hr.cells hc hl hv,h.swap j hj ⟨css,_,hr2⟩ hr2.nd h2 hown (R.nd _ _ _ _ hown) h1 h3⟩
theorem St.fptr{U:TypeId}{u:Value}{x:α}(h:St w0 S0 w L)(j:Nat)(hj:L[j]? =some (itI (vC U R) [u] S x)):∃b,u=.pointer (some ⟨b,0,none⟩):=by
 obtain ⟨b,cs',S',hv,_⟩:=h.all j _ hj
 grind
theorem St.optSome{U:TypeId}{u:Value}{x:Option α}{y:α}(h:St w0 S0 w L)(j:Nat)(hj:L[j]? =some (itI (AD U R) [u] S x))(hx:x=some y):St w0 S0 w (L.set j (itI (vC U R) [u] S y)):=by
 subst hx;exact h.turn j hj (h.all j _ hj) rfl
theorem St.nhole(h:St w0 S0 w L)(j:Nat){t:Int}{cs:List Value}(hj:L[j]? =some (nI T R v S xs (some (t.toNat,cs)))){g cap:Nat}(hv:v=.slice (some ⟨g,o,none⟩) n cap):∀f u,cs[f]? =some u->w.cell? ⟨g,o+t.toNat*R.sz+f,none⟩=some u:=by
 obtain ⟨css,Ss,hr⟩:=h.all j _ hj;obtain ⟨h1,h2,_⟩:=hr.out _ _ rfl;exact hr.cells h2 h1 hv
theorem St.nback(h:St w0 S0 w L)(k j:Nat)(hkj:Nat.beq k j=false){t:Int}{cs:List Value}{x y:α}(hk:L[k]? =some (nI T R v S xs (some (t.toNat,cs))))(hj:L[j]? =some (itI R cs S2 y))(hx:idx xs t=some x):
  ∃S',St w0 S0 w ((L.set k (nI T R v S' (xs.set t.toNat y) none)).set j nilI):=by
 obtain ⟨css,Ss,hr⟩:=h.all k _ hk;obtain ⟨_,h2,h3⟩:=hr.out _ _ rfl
 have hset:css.set t.toNat cs=css:=by
  apply m6
  grind
 have hd:∀b∈S,b∉S2:=h.apart k j _ _ (p6 hkj) hk hj;have hown:R.own w cs S2 y:=h.all j _ hj;have:=hr.give (w':=w) (x:=y) (λi c e=>by grind) (zU hx).2.2 hown hd (λ_ _=>rfl) (by rw [hset];exact hr.row)
 refine ⟨_,h.fuse k j hkj hk hj ⟨_,_,this⟩ this.nd (λb hb=> ?_)⟩;rcases i5.1 hb with hb|hb
 ·exact .inl (by show b∈S;rw [hr.hS];exact zal _ hb)
 ·rcases jU hb with hb|hb
  ·exact .inr hb
  ·exact .inl (by show b∈S;rw [hr.hS];exact zar _ hb)
theorem St.nback0(h:St w0 S0 w L)(k j:Nat)(hkj:Nat.beq k j=false){t:Int}{cs:List Value}{x:α}(hk:L[k]? =some (nI T R v S xs (some (t.toNat,cs))))(hj:L[j]? =some (itI R cs S2 x))(hx:idx xs t=some x):
  ∃S',St w0 S0 w ((L.set k (nI T R v S' xs none)).set j nilI):=by
 have:=h.nback k j hkj hk hj hx
 rwa [mM hx] at this
theorem St.nNil(h:St w0 S0 w L)(T:TypeId)(R:Rp α)(a:Option Addr):St w0 S0 w (L++[nI T R (.slice a 0 0) [] [] none]):=
 h.push (w9 _ _) ⟨[],[],⟨by grind [jQ,dJ.nil],rfl,rfl,by simp [ez],l8,(λ_ _ e=>by cases e),λi cs S x _ hc=>by simp at hc⟩⟩ (λb hb=>by simp [nI] at hb) l8
theorem St.nNew(h:St w0 S0 w L)(j:Nat)(R:Rp α)(hs:sz=R.sz){cs:List Value}(hj:L[j]? =some (qi v T (fit sz) sz (List.replicate n cs)))(x:α)(hx:∀w,R.own w cs [] x):St w0 S0 w (L.set j (nI T R v (cY v).toList (List.replicate n x) none)):=by
 subst hs
 have e:(List.replicate n ([]:List Nat)).flatten=[]:=by
  clear hj
  induction n with
  |zero=>rfl
  |succ n ih=>simp [List.replicate_succ,ih]
 have hrow:=h.all j _ hj;refine h.turn j hj ⟨List.replicate n cs,List.replicate n [],⟨by grind [qi],by simp,by simp,by grind,cI,(λ_ _ e=>by cases e),λi c S' z _ hc hS hz=> ?_⟩⟩ rfl
 grind
end
theorem dJ.write{w:World}(hr:dJ w T sz v xs.length (jQ enc xs))(he:∀x,(enc x).length=sz){g cap:Nat}(hv:v=.slice (some ⟨g,o,none⟩) n cap){q:Nat}{z z':α}(hz:xs[q]? =some z){f k:Nat}{vs:List Value}(hk:k=o+q*sz+f)
  (hf:f+vs.length<=sz) (hz':qG (enc z) vs f=enc z'):∃cur,w.heap[g]? =some (.cells cur T (0,0))/\k+vs.length<=cur.size/\cY v=some g/\dJ (w.setRow g (qG cur.toList vs k).toArray) T sz v xs.length (jQ enc (xs.set q z')):=by
 subst hv;have hql:=(zes.1 hz).1;rcases hr.2 with ⟨hn,_⟩|⟨g',o',cap',cur,hc,hp,hgc,hnc,hm,hcs,htake⟩
 ·omega
 ·simp only [Value.slice.injEq,g9,Addr.mk.injEq,and_true] at hc;obtain ⟨⟨rfl,rfl⟩,rfl,rfl⟩:=hc;have hsz:q*sz+sz<=xs.length*sz:=by rw [<- y5];exact o9 _ hql
  have hcap:xs.length*sz<=cap*sz:=o9 _ hnc;have hfit:k+vs.length<=cur.size:=by rw [hk];omega
  have hlen:(qG cur.toList vs k).length=cur.size:=by simp [qG] at hfit |-;omega
  refine ⟨cur,hgc,hfit,xL hp,⟨by rw [qP he,j7],.inr ⟨g,o,cap,_,by simp,hp,setRow_heap w g cur _ T _ hgc,by simpa using hnc,hm,by grind,?_⟩⟩⟩;have hset:=Al he (f:=f) (vs:=vs) hz hf hz'
  grind [cJ]
section
variable {P:Program} {N:Nat} {Q:Exit->Act->World->Prop} {fr fr':List (Nat×Value)} {w w0:World} {l:List Oper} {i:Nat} {o:Oper} {S0:List Nat} {L:List Item} {α:Type} {R:Rp α}
theorem OW.stN{t:TypeId}{ty:TypeId}{pos:String}{af:Array Edge}{gdd:Option (Nat×Bool)}(hst:St w0 S0 w L)(k j:Nat)(hkj:Nat.beq k j=false){hd:Value}{g o cap:Nat}{xs:List α}{ho:Option (Nat×List Value)}{cs:List Value}{z u:α}
  (hk:L[k]? =some (nI T R hd S xs ho)) (hho:∀i c,ho=some (i,c)->i=q.toNat) (hj:L[j]? =some (itI R cs S2 u)) (hv:hd=.slice (some ⟨g,o,none⟩) n cap)
  (hl:vk l i=some ⟨none,.store t x y,ty,pos,af,gdd⟩) (hg:gd l fr ⟨none,.store t x y,ty,pos,af,gdd⟩=some true)
  (hz:Sx.idx xs q=some z) {a:Nat} (hx:look fr x=some (.pointer (some ⟨g,a,none⟩))) (ha:a=o+q.toNat*R.sz) (hy:look fr y=some v) (hc:v.cells.toList=cs)
  (hs:aj P (sizeOf t)=some v.cells.toList.length) (h1:eA v.cells.toList=true)
  (h:∀S' w',St w0 S0 w' ((L.set k (nI T R hd S' (xs.set q.toNat u) none)).set j nilI)->OW P l N Q (i+1) fr w'):OW P l N Q i fr w:=by
 obtain ⟨css,Ss,hr⟩:=hst.all k _ hk;have hown:R.own w cs S2 u:=hst.all j _ hj;have hlen:=R.len _ _ _ _ hown;obtain ⟨h0,hq,hq2⟩:=zU hz;have hdis:∀b∈S,b∉S2:=hst.apart k j _ _ (p6 hkj) hk hj;have a1:q.toNat<css.length:=by rw [hr.lc];omega
 have hrow:dJ w T R.sz hd css.length (jQ (fit R.sz) css):=by rw [hr.lc];exact hr.row
 obtain ⟨cur,hgc,hfit,hob,hnew⟩:=dJ.write hrow (λx=>cZ _ x) hv (q:=q.toNat) (z:=css[q.toNat]) (z':=cs) (zeg a1) (f:=0) (k:=a) (vs:=cs) (by omega) (by omega) (Gu hlen);subst hc;refine OW.ops hl hg rfl (w':=w.setRow g (qG cur.toList v.cells.toList a).toArray) (λb hb=> ?_) (h ((cY hd).toList++(Ss.set q.toNat S2).flatten) _ ?_)
 ·have e1:=hb.look hx;have e2:=hb.look hy;have:=pJ (P:=P) (w:=w) (T:=T) (g:=g) hs h1 hgc hfit;simp [execOp,e1,e2,this]
 ·have hchg:Chg [g] w (w.setRow g (qG cur.toList v.cells.toList a).toArray):=⟨rfl,rfl,rfl,by simp [World.setRow],λq _ hn=>setRow_other w g q _ (by rintro rfl;exact hn (by simp))⟩
  have hgS:g∈S:=by rw [hr.hS];exact zal _ (by simp [hob])
  have hn:=hr.nd;rw [hr.hS] at hn;have hn3:=(k7.1 hn).2.2;have hlt:=hr.lt;have hown':R.own (w.setRow g (qG cur.toList v.cells.toList a).toArray) v.cells.toList S2 u:=R.loc _ _ _ _ _ (λb hb=>hchg.block b (R.lt _ _ _ _ hown b hb) (by simp only [i6];rintro rfl;exact hdis _ hgS hb)) hown
  have hgive:=hr.give (w':=w.setRow g (qG cur.toList v.cells.toList a).toArray) (x:=u) hho hq2 hown' hdis (λb hb=>hchg.block b (hlt b (by rw [hr.hS];exact zar _ hb)) (by simp only [i6];rintro rfl;exact hn3 b (by simp [hob]) b hb rfl)) (by rw [<- hr.lc];exact hnew)
  have hold:Item:=nilI
  have hsub:∀b∈(cY hd).toList++(Ss.set q.toNat S2).flatten,b∈S\/b∈S2:=λb hb=>by
   rcases i5.1 hb with hb|hb
   ·exact .inl (by rw [hr.hS];exact zal _ hb)
   ·rcases jU hb with hb|hb
    ·exact .inr hb
    ·exact .inl (by rw [hr.hS];exact zar _ hb)
  let A:Item:=⟨(cY hd).toList++(Ss.set q.toNat S2).flatten,λw1=>∀b∈(cY hd).toList++(Ss.set q.toNat S2).flatten,b<w1.heap.size,λw1 w2 hb hh b hb2=>by
   have h1:=hh b hb2;have h2:=hb b hb2;rw [RL h1] at h2;exact (w7.1 h2).1,λw1 hh=>hh⟩
  have hA:St w0 S0 w ((L.set k A).set j nilI):=hst.fuse k j hkj hk hj (C:=A) (λb hb=>by
   rcases hsub b hb with hb|hb
   ·exact hlt b hb
   ·exact R.lt _ _ _ _ hown b hb) hgive.nd hsub
  have hlk:k<L.length:=(zes.1 hk).1
  have hkA:((L.set k A).set j nilI)[k]? =some A:=by
   rw [z5 (λe=>p6 hkj e.symm),yh hlk]
  have:=hA.upd k hkA (it':=nI T R hd ((cY hd).toList++(Ss.set q.toNat S2).flatten) (xs.set q.toNat u) none) (hchg.mono (λb hb=>by simp only [i6] at hb;subst hb;exact zal _ (by simp [hob]))) ⟨_,_,hgive⟩ (λb hb=>.inl hb) hgive.nd
  rw [List.set_comm _ _ (λe=>p6 hkj e.symm),yr] at this;exact this
theorem OW.appN{d t e:Nat}{ty:TypeId}{pos:String}{af:Array Edge}{gdd:Option (Nat×Bool)}{ats:List Nat}(hst:St w0 S0 w L)(k j:Nat)(hkj:Nat.beq k j=false){v2:Value}{xs ys:List α}{bytes:Nat}
  (hk:L[k]? =some (nI e R v S xs none)) (hj:L[j]? =some (nI e R v2 S2 ys none))
  (hl:vk l i=some ⟨some d,.call ⟨.builtin .append,[x,y].toArray,ats.toArray⟩,ty,pos,af,gdd⟩) (ha:ats=[t,t]) (hg:gd l fr ⟨some d,.call ⟨.builtin .append,[x,y].toArray,ats.toArray⟩,ty,pos,af,gdd⟩=some true)
  (hN:Nat.blt d N=true) (hx:look fr x=some v) (hy:look fr y=some v2) (ht:P.underlying t=some (.slice e)) (hel:tN P e R.sz bytes) (hb:(xs.length+ys.length)*bytes<=140737488355328) (hone:∀w cs S x,R.own w cs S x->eA cs=true)
  (h:∀v' S' w',St w0 S0 w' ((L.set k (nI e R v' S' (xs++ys) none)).set j nilI)->OW P l N Q (i+1) ((d,v')::fr) w'):OW P l N Q i fr w:=by
 subst ha;obtain ⟨css,Ss,hr⟩:=hst.all k _ hk;obtain ⟨css2,Ss2,hr2⟩:=hst.all j _ hj;have hdis:∀b∈S,b∉S2:=hst.apart k j _ _ (p6 hkj) hk hj;obtain ⟨inf,z,hi,hz,hsz,hby,hzs⟩:=hel.Ut
 have exec:∀{v':Value} {w':World},(Builtin.append_ #[t,t] ty #[v,v2]).run P w=.ok v' w'->∀a,Rep N fr a->
   (execOp a.eval ⟨some d,.call ⟨.builtin .append,[x,y].toArray,[t,t].toArray⟩,ty,pos,af,gdd⟩).run P w=.ok (.value v') w':=by
  intro v' w' hr a ha;have e1:=ha.look hx;have e2:=ha.look hy;simp [execOp,resolve,invoke,builtin,e1,e2,hr]
 have hlk:k<L.length:=(zes.1 hk).1
 have key:∀{v':Value} {w':World},(Builtin.append_ #[t,t] ty #[v,v2]).run P w=.ok v' w'->w.grownBy w' (cY v)->(cY v'=cY v\/cY v'=some w.heap.size)->dJ w' e R.sz v' (xs.length+ys.length) (jQ (fit R.sz) css++jQ (fit R.sz) css2)->OW P l N Q i fr w:=by
  intro v' w' hrun hgr hat hown;have hn:=hr.nd;rw [hr.hS] at hn;have hn3:=(k7.1 hn).2.2;have hchg:Chg (cY v).toList w w':=Chg.grown hgr (λb hb=>by simp [hb])
  have happ:=hr.app (w':=w') hr2 hdis (λb hb=>hchg.block b (by
   rcases i5.1 hb with hb|hb
   ·exact hr.lt b (by rw [hr.hS];exact zar _ hb)
   ·exact hr2.lt b (by rw [hr2.hS];exact zar _ hb)) (λhv=>by
   rcases i5.1 hb with hb|hb
   ·exact hn3 b hv b hb rfl
   ·exact hdis b (by rw [hr.hS];exact zal _ hv) (by rw [hr2.hS];exact zar _ hb))) hat hown
  refine j6 hl hg rfl hN (exec hrun) (h v' ((cY v').toList++(Ss++Ss2).flatten) w' ?_)
  have hsub:∀b∈(cY v).toList++(Ss++Ss2).flatten,b∈S\/b∈S2:=λb hb=>by
   rw [yp] at hb;rcases i5.1 hb with hb|hb
   ·exact .inl (by rw [hr.hS];exact zal _ hb)
   ·rcases i5.1 hb with hb|hb
    ·exact .inl (by rw [hr.hS];exact zar _ hb)
    ·exact .inr (by rw [hr2.hS];exact zar _ hb)
  have hnd:((cY v).toList++(Ss++Ss2).flatten).Nodup:=by
   have hn2:=hr2.nd;rw [hr2.hS] at hn2;have m:=k7.1 hn2;have n:=k7.1 hn;rw [yp];refine k7.2 ⟨n.1,k7.2 ⟨n.2.1,m.2.1,λa ha b hb e=>by subst e;exact hdis a (by rw [hr.hS];exact zar _ ha) (by rw [hr2.hS];exact zar _ hb)⟩,λa ha b hb e=> ?_⟩
   subst e;rcases i5.1 hb with hb|hb
   ·exact hn3 a ha a hb rfl
   ·exact hdis a (by rw [hr.hS];exact zal _ ha) (by rw [hr2.hS];exact zar _ hb)
  let A:Item:=⟨(cY v).toList++(Ss++Ss2).flatten,λw1=>∀b∈(cY v).toList++(Ss++Ss2).flatten,b<w1.heap.size,λw1 w2 hb hh b hb2=>by
   have h1:=hh b hb2;have h2:=hb b hb2;rw [RL h1] at h2;exact (w7.1 h2).1,λw1 hh=>hh⟩
  have hA:St w0 S0 w ((L.set k A).set j nilI):=hst.fuse k j hkj hk hj (C:=A) (λb hb=>by
   rcases hsub b hb with hb|hb
   ·exact hr.lt b hb
   ·exact hr2.lt b hb) hnd hsub
  have hkA:((L.set k A).set j nilI)[k]? =some A:=by
   rw [z5 (λe=>p6 hkj e.symm),yh hlk]
  have:=hA.upd k hkA (it':=nI e R v' ((cY v').toList++(Ss++Ss2).flatten) (xs++ys) none) (hchg.mono (λb hb=>zal _ hb)) ⟨_,_,happ⟩ (λb hb=>by
   rcases i5.1 hb with hb|hb
   ·rcases hat with hat|hat
    ·exact .inl (zal _ (by rw [<- hat];exact hb))
    ·rw [hat] at hb;simp at hb;exact .inr (by omega)
   ·exact .inl (zar _ hb)) happ.nd
  rw [List.set_comm _ _ (λe=>p6 hkj e.symm),yr] at this;exact this
 have hlim:=(hst.nlen k hk).1
 have hrow2:Rd w [] v2 (fit R.sz) R.sz css2:=by
  have hrow:=hr2.row;rw [<- hr2.lc] at hrow;exact kG (λx=>cZ _ x) hrow (by simp)
 obtain ⟨hn2,a2,c2,hv2,_,hc2⟩:=hrow2;have hlc2:=hr2.lc;rcases yn ys.length with h0|h0
 ·have hys:ys=[]:=yx h0;have hcs:css2=[]:=yx (by omega);refine key (v':=v) (w':=w) ?_ ⟨rfl,rfl,rfl,l6 _,λ_ _ _=>rfl⟩ (.inl rfl) ?_
  ·rw [hv2,hcs];exact hP ht hel.size hr.row a2 c2
  ·rw [hcs,hys]
   simpa [jQ] using hr.row
 ·obtain ⟨c0,hc0⟩:∃c0,css2[0]? =some c0:=⟨css2[0]'(by omega),zeg (by omega)⟩
  obtain ⟨u0,hu0⟩:∃u0,(fit R.sz c0)[0]? =some u0:=⟨(fit R.sz c0)[0]'(by rw [cZ];exact hel.pos),zeg (by rw [cZ];exact hel.pos)⟩
  obtain ⟨b,q,rfl,_,_⟩:=hc2 0 c0 0 u0 hc0 hu0
  have hcell:∀q' u,(jQ (fit R.sz) css2)[q']? =some u->w.cell? ((⟨b,q,none⟩:Addr).add q')=some u:=by
   intro q' u hu;rw [dy];obtain ⟨t,f,x,hx,hf,hq⟩:=gD (λx=>cZ R.sz x) hel.pos hu;obtain ⟨b',k',hb',_,hcell⟩:=hc2 t x f u hx hf;simp only [g9,Addr.mk.injEq,and_true] at hb';obtain ⟨rfl,rfl⟩:=hb';rw [hq,<- yq];exact hcell
  have hones:∀u∈jQ (fit R.sz) css2,u.oneCell'=true:=by
   intro u hu;obtain ⟨q',hq',rfl⟩:=t9.1 hu;obtain ⟨t,f,c,hx,hf,_⟩:=gD (λx=>cZ R.sz x) hel.pos (zeg hq');have ht:=(zes.1 hx).1;have l1:t<Ss2.length:=by rw [hr2.ls];omega
   have l2:t<ys.length:=by omega
   have hown:=hr2.own t c Ss2[t] ys[t] (by simp) hx (zeg l1) (zeg l2);rw [rz (R.len _ _ _ _ hown)] at hf;exact eB (hone _ _ _ _ hown) _ (zmg hf)
  obtain ⟨v',w',hrun,hown,hgr,hat⟩:=I8 (P:=P) w t ty e inf z R.sz bytes ht hi hz hsz hby hzs v xs.length (jQ (fit R.sz) css) hr.row ⟨b,q,none⟩ ys.length c2 h0 (jQ (fit R.sz) css2) (by rw [qP (λx=>cZ R.sz x),hlc2]) hcell hones
   (by have:=RR (xs.length+ys.length) hel.UB;simp only [maxLen];omega) hb
  refine key ?_ hgr hat hown;rw [hv2,hlc2];exact hrun
end
end Go.Sx
