/- Lemmas. -/
import Derived.Test.YtplmgfkghomelaaGreatDoorLib
import Derived.WalkSpells
set_option linter.all false
namespace Go.Sx
open Go.RowKit
variable {α β:Type}{S r done eff S2 F' S':List Nat}{x y a7:Operand}{sz i N n c j d f a9 b0 b2:Nat}{xs g:List α}{w s w':World}{v v2 v':Value}{P:Program}{l:List Oper}{fr:List (Nat×Value)}{L L':List Item}{T ty t2 e U:TypeId}{o:Oper}{Q:Exit->Act->World->Prop}{a:Option Addr}{p:α->List Value}{Ss Ss2:List (List Nat)}{b E:Act}{listed:Array Bool}{hi q:Int}{ho:Option (Nat×List Value)}{css t:List (List Value)}{u yk:IntKind}{A A' B C:Item}{gdd:Option (Nat×Bool)}{z z':α}{D:List Operand}{h:Nat×(World->Prop)}{G I:Nat->Bool}{J:Option Nat}{K:Nat->Prop}{M:Bool}{O:String}{V:Array Edge}{W:Addr}{X:ByteArray}{eqv:TypeId->Value->Value->Option Bool}{Y Z:Array Value}{a0:Unit}{a1 m:List β}{k a5:β}{a4 a6 vs:List Value}{a8:Option α}
def MG:List Operand->List Nat
 |[]=>[]
 |.tmp t::r=>t::MG r
 |_::r=>MG r
def lk(l:List Oper)(o:Oper):List Nat:=MG o.op.operands.toList++(match o.guard with
 |none=>[]
 |some (j,_)=>match (vg l j).bind (·.dst) with
  |some d=>[d]
  |none=>[])
theorem Kp(h:Operand.tmp sz∈D):sz∈MG D:=by
 induction D with
 |nil=>exact absurd h znm
 |cons x r i=>
  rcases j5.1 h with a|a
  ·subst a;exact zcs
  ·cases x with
   |tmp u=>exact zcm _ (i a)
   |const v=>exact i a
   |global g=>exact i a
   |func f=>exact i a
theorem Kq(h:∀t,x=.tmp t->E.tmps[t]? =b.tmps[t]?):E.eval x=b.eval x:=by
 cases x with
 |tmp t=>simp [Act.eval,yz,h t rfl]
 |_=>rfl
theorem iL(a:aE o.op=true)(h:∀s∈lk l o,E.tmps[s]? =b.tmps[s]?):execOp E.eval o=execOp b.eval o:=
 ki a (λx c=>Kq (λt e=>h t (zal _ (Kp (by rw [<- e];exact c)))))
theorem ef(h:∀s∈lk l o,E.tmps[s]? =b.tmps[s]?):Region.wanted o (yielded l.toArray E.tmps)=Region.wanted o (yielded l.toArray b.tmps):=by
 unfold Region.wanted;cases e:o.guard with
 |none=>rfl
 |some g=>
  obtain ⟨j,c⟩:=g
  have a:yielded l.toArray E.tmps j=yielded l.toArray b.tmps j:=by
   unfold yielded;rw [dQ];cases f:(vg l j).bind (·.dst) with
   |none=>rfl
   |some d=>
    grind [lk]
  simp only [a]
abbrev oq:=List (Nat×(World->Prop))
def holds:oq->World->Prop
 |[],_=>True
 |p::r,w=>p.2 w/\holds r w
def mC(k:List Nat):oq->oq
 |[]=>[]
 |p::r=>match mem? p.1 k with
  |true=>p::mC k r
  |false=>mC k r
variable {F:oq}
theorem De(h:holds F w):∀p∈F,p.2 w:=by
 induction F with
 |nil=>intro p a;exact absurd a znm
 |cons q r i=>
  intro p a;rcases j5.1 a with rfl|a
  ·exact h.1
  ·exact i h.2 p a
theorem Df(a:h∈F)(b:h.1∈S):h∈mC S F:=by
 induction F with
 |nil=>exact absurd a znm
 |cons q r i=>
  unfold mC;rcases j5.1 a with rfl|a
  ·rw [mem?_iff.2 b];exact zcs
  grind
def aft(l:List Oper)(i:Nat):List Nat:=match vg l i with
 |none=>[]
 |some o=>(o.after.toList.filter (λe=>Region.binds .any e)).map (·.on)
theorem PI(h:vg l i=some o):j∈aft l i↔∃e∈o.after,Region.binds .any e=true/\e.on=j:=by
 grind [aft]
def close(l:List Oper):Nat->List Nat->List Nat->List Nat
 |0,_,fh=>fh
 |_+1,[],fh=>fh
 |n+1,j::r,fh=>match mem? j fh with
  |true=>close l n r fh
  |false=>close l n (aft l j++r) (j::fh)
def NE(l:List Oper)(i:Nat):List Nat:=close l ((l.length+1)*(l.length+1)) (aft l i) []
theorem rH{l:List Oper}{p:Nat->Prop}(down:∀j,p j->∀k∈aft l j,p k):∀(n:Nat)(t fh:List Nat),(∀x∈t,p x)->(∀x∈fh,p x)->∀x∈close l n t fh,p x
 |0,_,_,_,h=>h
 |_+1,[],_,_,h=>h
 |n+1,j::r,fh,b,h=>by
  unfold close;split
  ·exact rH down n r fh (λx a=>b x (zcm _ a)) h
  ·refine rH down n (aft l j++r) (j::fh) (λx a=> ?_) (λx a=> ?_)
   ·grind
   grind
def Tl(P:Program)(l:List Oper)(F:oq)(b:Act)(j:Nat):Prop:=
  ∃ (o : Oper) (v : Value), vg l j = some o /\ aE o.op = true /\ (∀ d, o.dst = some d -> b.tmps[d]? = some v) /\
    ((Region.wanted o (yielded l.toArray b.tmps)=true/\((∀w,(execOp b.eval o).run P w=.ok (.value v) w)\/∃a,(j,a)∈F/\∀w,a w->(execOp b.eval o).run P w=.ok (.value v) w))\/
     (Region.wanted o (yielded l.toArray b.tmps)=false/\v=undef))
def eX(l:List Oper)(j:Nat):Option Nat:=(vg l j).bind (·.dst)
def tv(l:List Oper)(j:Nat):List Nat:=match vg l j with
 |none=>[]
 |some o=>lk l o
structure Rel (P:Program) (l:List Oper) (done eff:List Nat) (F:oq) (w:World) (listed:Array Bool) (a b:Act):Prop where
 size:listed.size=l.length
 Wv:a.tmps.size=b.tmps.size
 Wn:a.defers=b.defers
 sub:∀j,listed.getD j false=true->j∈done
 down:∀j,listed.getD j false=true->∀k∈aft l j,listed.getD k false=true
 eff:∀j∈eff,listed.getD j false=true
 same:∀s,(∀j∈done,listed.getD j false=false->eX l j≠some s)->a.tmps[s]? =b.tmps[s]?
 facts:∀p∈F,listed.getD p.1 false=false->p.2 w
 VE:∀j∈done,listed.getD j false=false->Tl P l F b j
 WI:∀i∈done,listed.getD i false=false->∀j∈done,listed.getD j false=false->∀s,eX l j=some s->s∈tv l i->j∈aft l i
def cnt(l:List Oper)(listed:Array Bool):Nat:=((List.range l.length).filter (λj=> !listed.getD j false)).length
theorem Kr(h:∀j,I j=true->G j=true){t:Nat}(b:G t=true)(c:I t=false):∀n,t<n->((List.range n).filter I).length<((List.range n).filter G).length:=by
 have le:∀n,((List.range n).filter I).length<=((List.range n).filter G).length:=by
  intro n
  induction n with
  |zero=>exact k9 _
  |succ n i=>
   rw [List.range_succ,yt,yt,l8,l8]
   grind
 intro n
 induction n with
 |zero=>intro a;omega
 |succ n i=>
  intro a;rw [List.range_succ,yt,yt,l8,l8]
  grind
theorem Bw(c:listed.size=l.length)(a:j<l.length)(h:listed.getD j false=false):cnt l (listed.setIfInBounds j true)<cnt l listed:=by
 unfold cnt;refine Kr (λk b=> ?_) (t:=j) (by rw [h];rfl) ?_ l.length a
 ·cases hl:listed.getD k false with
  |false=>rfl
  |true=>rw [getD_set_true hl] at b;exact b
 ·simp [c,a]
def SH(l:List Oper):Bool:=(List.range l.length).all λi=>(aft l i).all λj=>Nat.blt j i
theorem PJ(h:i<l.length):∃o,vg l i=some o:=by
 have:l.toArray[i]? =some l[i]:=by simp [h]
 grind [dQ]
theorem sE(h:vg l i=some o):i<l.length:=(zes.1 (tQ h)).1
theorem Ks(h:j<listed.size):listed.getD j true=listed.getD j false:=by
 simp [h]
theorem lP(h:listed.size=l.length):j∈Region.ready .any l.toArray listed↔j<l.length/\listed.getD j false=false/\∀k∈aft l j,listed.getD k false=true:=by
 rw [mem_ready]
 grind [dQ,sE,Ks,PI,PJ]
theorem Bx(b:SH l=true)(c:listed.size=l.length)(g:Region.ready .any l.toArray listed=[]):∀j,j<l.length->listed.getD j false=true:=by
 intro j
 induction j using Nat.strongRecOn with
 |_ j i=>
  intro a;cases h:listed.getD j false with
  |true=>rfl
  |false=>
   have:j∈Region.ready .any l.toArray listed:=(lP c).2 ⟨a,h,λk d=>by
    have e:=yf.1 (yf.1 b j (by simpa using a)) k d;have f:k<j:=by simpa [x6] using e
    grind⟩
   grind
theorem Rel.get_put(h:J≠some sz):(b.put J v).tmps[sz]? =b.tmps[sz]? :=by
 cases J with
 |none=>rfl
 |some J=>
  have:J≠sz:=λe=>h (by rw [e])
  simp only [Act.put]
  grind
theorem yn:type_of% @Rel.get_put:=Rel.get_put
theorem fS:(b.put J v).tmps.size=b.tmps.size:=by
 cases J<;>simp [Act.put]
theorem jk:(b.put J v).defers=b.defers:=by
 cases J<;>simp [Act.put]
theorem Ai(h:d<b.tmps.size):(b.put (some d) v).tmps[d]? =some v:=by
 simp [Act.put,h]
theorem bN(h:(listed.setIfInBounds i true).getD j false=false):listed.getD j false=false:=by
 cases hl:listed.getD j false with
 |false=>rfl
 |true=>rw [getD_set_true hl] at h;exact h
theorem cL(h:i<listed.size):(listed.setIfInBounds i true).getD i false=true:=by
 simp [h]
theorem sF(T:SH l=true)(D:l.all (λo=>aE o.op)=true)
  (n:∀listed E,Rel P l done eff F w listed E b->Region.ready .any l.toArray listed=[]->Q .normal E w)
  (U:∀f listed E,Rel P l done eff F w listed E b->cnt l listed<=f+1->∀j∈Region.ready .any l.toArray listed,j∉done->wpOp P l.toArray Q j (wpAny P .any l.toArray Q f (listed.setIfInBounds j true)) E w):
  ∀f listed E,Rel P l done eff F w listed E b->cnt l listed<=f->wpAny P .any l.toArray Q f listed E w:=by
 intro f
 induction f with
 |zero=>
  intro listed E a J
  have u:Region.ready .any l.toArray listed=[]:=by
   rw [List.eq_nil_iff_forall_not_mem];intro j x;obtain ⟨y,m,_⟩:=(lP a.size).1 x;have:=Bw a.size y m;omega
  exact ⟨u,n _ _ a u⟩
 |succ f K=>
  intro listed E a J;refine ⟨λu=>n _ _ a u,λj x=> ?_⟩;by_cases z:j∈done
  ·obtain ⟨y,m,L⟩:=(lP a.size).1 x;obtain ⟨o,v,ho,M,r,h⟩:=a.VE j z m
   have d:∀s∈lk l o,E.tmps[s]? =b.tmps[s]? :=λs t=>a.same s (λk c g e=>by
    have:=a.WI j z m k c g s e (by grind [tv])
    grind)
   have next:wpAny P .any l.toArray Q f (listed.setIfInBounds j true) (E.put o.dst v) w:=by
    refine K _ _ ⟨by simpa using a.size,by rw [fS,a.Wv],by rw [jk,a.Wn],λk c=> ?_,λk c q G=> ?_,λk c=>getD_set_true (a.eff k c),λs t=> ?_,λp N hl=>a.facts p N (bN hl),λk c hl=>a.VE k c (bN hl),
     λi hi A k c g=>a.WI i hi (bN A) k c (bN g)⟩ ?_
    ·by_cases e:j=k
     ·subst e;exact z
     ·rw [getD_set_ne false e] at c;exact a.sub k c
    ·by_cases e:j=k
     ·subst e;exact getD_set_true (L q G)
     ·rw [getD_set_ne false e] at c;exact getD_set_true (a.down k c q G)
    ·by_cases e:o.dst=some s
     ·have O:=r s e;have R:s<E.tmps.size:=by rw [a.Wv];exact (t7.1 O).1
      grind [Ai]
     ·rw [yn e];refine a.same s (λk c g B=> ?_);by_cases C:j=k
      ·grind [eX]
      ·exact t k c (by rw [getD_set_ne false C];exact g) B
    ·have:=Bw a.size y m;omega
   unfold wpOp;rw [dQ,ho];simp only [];rw [ef d];rcases h with ⟨I,h⟩|⟨I,rfl⟩
   ·rw [d7 I];left;unfold Oper.wp;rw [iL M d]
    have:(execOp b.eval o).run P w=.ok (.value v) w:=by
     rcases h with h|⟨V,S,h⟩
     ·exact h w
     ·exact h w (a.facts _ S m)
    rw [this,Oper.upon_value];exact next
   grind
  grind
def SV(P:Program)(l:List Oper)(Q:Exit->Act->World->Prop)(done eff:List Nat)(F:oq)(b:Act)(w:World):Prop:=
 ∀f listed a,Rel P l done eff F w listed a b->cnt l listed<=f->wpAny P .any l.toArray Q f listed a w
def OA(P:Program)(l:List Oper)(N:Nat)(Q:Exit->Act->World->Prop)(done eff:List Nat)(F:oq)(fr:List (Nat×Value))(w:World):Prop:=
 ∀b,Rep N fr b->SV P l Q done eff F b w
def Bz(l:List Oper):Bool:=SH l&&l.all (λo=>aE o.op)
theorem CW.plan(e:P.follows .mixedOrders=true)(h:∀d,Chg [] w d->OA P l N Q [] [] [] fr d):CW P N (.region sz l.toArray true) Q fr w:=λa f=>by
 refine wp_region_any e ?_;refine h {w with drawn:=w.drawn+1} ⟨rfl,rfl,rfl,k9 _,λ_ _ _=>rfl⟩ a f _ _ _ ⟨by simp,rfl,rfl,λj b=> ?_,λj b=> ?_,λj b=>absurd b znm,λs _=>rfl,λp g=>absurd g znm,λj b=>absurd b znm,λj b=>absurd b znm⟩ ?_
 ·exfalso
  by_cases c:j<l.length
  ·simp [c] at b
  ·simp [c] at b
 ·exfalso
  by_cases c:j<l.length
  ·simp [c] at b
  ·simp [c] at b
 grind [cnt]
def KJ(l:List Oper)(done eff:List Nat)(i:Nat):Bool:=
 !mem? i done&&(match eX l i with
  |none=>true
  |some d=> !mem? d (tv l i)&&done.all (λj=>mem? j eff||(!mem? d (tv l j)&& !(eX l j==some d))))&&
 done.all (λj=>mem? j eff||mem? j (aft l i)||match eX l j with
  |none=>true
  |some s=> !mem? s (tv l i))
theorem not_mem?(h:(!mem? n S)=true):n∉S:=λa=>by rw [mem?_iff.2 a] at h;cases h
theorem OA.add(u:List (Nat×Value))(A:oq)(hl:vg l i=some o)(r:KJ l done eff i=true)(W:aE o.op=true)
  (B:∀b,Rep N fr b->Rep N u (b.put o.dst v))
  (hF:∀p∈F,p∈A) (C:∀p∈A,p∈F\/p.2 w)
  (Y:∀b,Rep N fr b->(Region.wanted o (yielded l.toArray b.tmps)=true/\((∀w,(execOp b.eval o).run P w=.ok (.value v) w)\/∃X,(i,X)∈A/\∀w,X w->(execOp b.eval o).run P w=.ok (.value v) w))\/
   (Region.wanted o (yielded l.toArray b.tmps)=false/\v=undef))
  (Z:∀d,o.dst=some d->d<N)
  (h:OA P l N Q (i::done) eff A u w):OA P l N Q done eff F fr w:=by
 intro b D x listed a g hc;unfold KJ at r;simp only [zae] at r;obtain ⟨⟨E,hd⟩,G⟩:=r;have E:=not_mem? E;have I:eX l i=o.dst:=by unfold eX;rw [hl];rfl
 have hli:tv l i=lk l o:=by unfold tv;rw [hl]
 have J:listed.getD i false=false:=by
  cases hx:listed.getD i false with
  |false=>rfl
  |true=>exact absurd (g.sub i hx) E
 have n:∀j,listed.getD j false=false->mem? j eff=false:=λj f=>by
  cases hm:mem? j eff with
  |false=>rfl
  |true=>rw [g.eff j (mem?_iff.1 hm)] at f;cases f
 have K:∀d,o.dst=some d->d∉lk l o/\∀j∈done,listed.getD j false=false->d∉tv l j/\eX l j≠some d:=by
  grind [not_mem?]
 have hd2:∀j∈done,listed.getD j false=false->∀s,eX l j=some s->s∈tv l i->j∈aft l i:=by
  intro j f k s e c;have:=yf.1 G j f;rw [n j k,Bool.false_or,e] at this;simp only [s7] at this;rcases this with t|t
  ·exact mem?_iff.1 t
  grind [not_mem?]
 have m:∀(q:Oper),(∀d,o.dst=some d->d∉lk l q)->∀s∈lk l q,(b.put o.dst v).tmps[s]? =b.tmps[s]? :=λq h' s c=>yn (λe=>h' s e c)
 refine h (b.put o.dst v) (B b D) x listed a ⟨g.size,by rw [fS,g.Wv],by rw [jk,g.Wn],λj f=>zcm _ (g.sub j f),g.down,g.eff,λs c=> ?_,λp hp L=> ?_,λj f k=> ?_,?_⟩ hc
 ·have M:o.dst≠some s:=λe=>c i zcs J (by rw [I,e])
  rw [yn M];exact g.same s (λj f=>c j (zcm _ f))
 ·rcases C p hp with t|t
  ·exact g.facts p t L
  ·exact t
 ·rcases j5.1 f with rfl|f
  ·have y:=m o (λd e=>(K d e).1);refine ⟨o,v,hl,W,λd e=> ?_,?_⟩
   ·rw [e];exact Ai (by rw [D.size];exact Z d e)
   ·rw [ef y,iL W y];exact Y b D
  ·obtain ⟨q,v',O,c,R,S⟩:=g.VE j f k;have hlj:tv l j=lk l q:=by grind [tv]
   have hdj:eX l j=q.dst:=by grind [eX]
   have y:=m q (λd e=>by grind);refine ⟨q,v',O,c,λd e=> ?_,?_⟩
   ·grind [yn]
   ·rw [ef y,iL c y]
    grind
 ·intro i' T z j f k s e c;rcases j5.1 T with rfl|U
  ·grind
  ·rcases j5.1 f with rfl|V
   ·grind
   ·exact g.WI i' U z j V k s e c
def SX(l:List Oper)(done:List Nat):Bool:=(List.range l.length).all λj=>mem? j done
theorem OA.fin(d:Bz l=true)(f:SX l done=true)(h:QW N Q .normal fr w):OA P l N Q done eff F fr w:=by
 intro b m;unfold Bz at d;rw [zae] at d;refine sF d.1 d.2 (λlisted a c r=> ?_) (λp listed a c x j q t=> ?_)
 ·have n:=Bx d.1 c.size r
  have g:∀s,a.tmps[s]? =b.tmps[s]? :=λs=>c.same s (λj q k e=>by
   unfold eX at e;cases ho:vg l j with
   |none=>rw [ho] at e;cases e
   |some o=>rw [n j (sE ho)] at k;cases k)
  exact h a ⟨c.Wv.trans m.size,c.Wn.trans m.defers,λi v hi=>(g i).trans (m.get i v hi)⟩
 ·obtain ⟨u,_,_⟩:=(lP c.size).1 q;exact absurd (mem?_iff.1 (yf.1 f j (by simpa using u))) t
def SI(l:List Oper)(done eff:List Nat)(i:Nat):Bool:=
 !mem? i done&&
 (List.range l.length).all (λj=>mem? j done||Nat.beq j i||(aft l j).any (λk=> !mem? k done))&&
 done.all (λj=>mem? j eff||mem? j (NE l i)||match eX l j with
  |none=>true
  |some s=> !mem? s (tv l i))&&
 (match eX l i with
  |none=>true
  |some d=>done.all (λj=>mem? j eff||mem? j (NE l i)||(!mem? d (tv l j)&& !(eX l j==some d))))
def wJ(l:List Oper)(i:Nat)(k:List Nat):oq->Bool
 |[]=>true
 |p::r=>(mem? p.1 (NE l i)||mem? p.1 k)&&wJ l i k r
theorem Dg(h:wJ l i S F=true):∀p∈F,p.1∈NE l i\/p.1∈S:=by
 induction F with
 |nil=>intro p a;exact absurd a znm
 |cons q r b=>
  unfold wJ at h;rw [zae,s7] at h;intro p a;rcases j5.1 a with rfl|a
  ·exact h.1.imp mem?_iff.1 mem?_iff.1
  ·exact b h.2 p a
def nG(P:Program)(l:List Oper)(Q:Exit->Act->World->Prop)(done eff:List Nat)(F:oq)(e:Exit)(b:Act)(w:World):Prop:=match e with
 |.normal=>holds F w/\SV P l Q done eff F b w
 |_=>False
def bare(o:Oper):Oper:={o with guard:=none}
theorem OA.act(y:List Nat)(M:Bz l=true)(hl:vg l i=some o)(hg:gd l fr o=some true)(E:SI l done eff i=true)(hk:wJ l i y F=true)
  (h:OW P [bare o] N (nG P l Q (i::done) (i::eff) (mC y F)) 0 fr w):OA P l N Q done eff F fr w:=by
 intro b hb;unfold Bz at M;rw [zae] at M;unfold SI at E;simp only [zae] at E;obtain ⟨⟨⟨Z,O⟩,hlk⟩,hd⟩:=E;have Z:=not_mem? Z;have R:=sE hl;have hs:aE o.op=true:=yf.1 M.2 o (zmg (tQ hl));have hdi:eX l i=o.dst:=by unfold eX;rw [hl];rfl
 have hli:tv l i=lk l o:=by unfold tv;rw [hl]
 refine sF M.1 M.2 (λlisted a t hr=> ?_) (λD listed a t hc j X S=> ?_)
 ·exact absurd (t.sub i (Bx M.1 t.size hr i R)) Z
 obtain ⟨h1,h2,h3⟩:=(lP t.size).1 X;have T:∀k∈NE l j,listed.getD k false=true:=rH (p:=λk=>listed.getD k false=true) t.down _ _ _ h3 (λx hx=>absurd hx znm)
 have B:∀j,listed.getD j false=false->mem? j eff=false:=λj X=>by
  cases hm:mem? j eff with
  |false=>rfl
  |true=>rw [t.eff j (mem?_iff.1 hm)] at X;cases X
 have e:j=i:=by
  have:=yf.1 O j (by simpa using h1);simp only [s7] at this;rcases this with (z|z)|z
  ·exact absurd (mem?_iff.1 z) S
  ·exact w7 z
  ·obtain ⟨k,hk1,hk2⟩:=List.any_eq_true.1 z;exact absurd (t.sub k (h3 k hk1)) (not_mem? hk2)
 subst e
 have C:∀s∈lk l o,a.tmps[s]? =b.tmps[s]? :=λs A=>t.same s (λk g m e=>by
  have:=yf.1 hlk k g;rw [B k m,Bool.false_or,e] at this;simp only [s7] at this;rcases this with z|z
  ·rw [T k (mem?_iff.1 z)] at m;cases m
  grind [not_mem?])
 have hd1:∀d,o.dst=some d->∀k∈done,listed.getD k false=false->d∉tv l k/\eX l k≠some d:=by
  intro d e k g m;rw [hdi,e] at hd;have:=yf.1 hd k g;rw [B k m,Bool.false_or] at this;simp only [s7,zae] at this;rcases this with z|z
  ·rw [T k (mem?_iff.1 z)] at m;cases m
  grind [not_mem?]
 have next:∀(v:Value)(w':World)(a1 U:Act),a1.tmps=(a.put o.dst v).tmps->U.tmps=(b.put o.dst v).tmps->a1.defers=U.defers->nG P l Q (j::done) (j::eff) (mC y F) .normal U w'->
   wpAny P .any l.toArray Q D (listed.setIfInBounds j true) a1 w':=by
  intro v w' a1 U ea eb ed hA;obtain ⟨hf,hA⟩:=hA;have isz:j<listed.size:=by rw [t.size];exact h1
  refine hA D _ a1 ⟨by simpa using t.size,by rw [ea,eb,fS,fS,t.Wv],ed,λk g=> ?_,λk g q hq=> ?_,λk g=> ?_,λs A=> ?_,λp hp' _=>De hf p hp',λk g m=> ?_,?_⟩ ?_
  ·by_cases e:j=k
   ·grind
   ·rw [getD_set_ne false e] at g;exact zcm _ (t.sub k g)
  ·by_cases e:j=k
   ·subst e;exact getD_set_true (h3 q hq)
   ·rw [getD_set_ne false e] at g;exact getD_set_true (t.down k g q hq)
  ·rcases j5.1 g with rfl|g
   ·exact cL isz
   ·exact getD_set_true (t.eff k g)
  ·rw [ea,eb];by_cases e:o.dst=some s
   ·rw [e];by_cases V:s<b.tmps.size
    ·rw [Ai V,Ai (by rw [t.Wv];exact V)]
    ·rw [Array.getElem?_eq_none (by rw [fS,t.Wv];omega),Array.getElem?_eq_none (by grind [fS])]
   ·rw [yn e,yn e]
    exact t.same s (λk g m=>A k (zcm _ g) (by
     have:j≠k:=λe2=>S (by rw [e2];exact g)
     rw [getD_set_ne false this];exact m))
  ·rcases j5.1 g with rfl|g
   ·grind [cL]
   have m:=bN m;obtain ⟨Y,v',ho',A,hdst',G⟩:=t.VE k g m;have hlj:tv l k=lk l Y:=by grind [tv]
   have hdj:eX l k=Y.dst:=by grind [eX]
   have e1:∀s∈lk l Y,U.tmps[s]? =b.tmps[s]? :=λs hs2=>by
    grind [yn]
   refine ⟨Y,v',ho',A,λd e=> ?_,?_⟩
   ·grind [yn]
   ·rw [ef e1,iL A e1];rcases G with ⟨g1,g2|⟨Φ,g2,g3⟩⟩|g1
    ·grind
    ·refine .inl ⟨g1,.inr ⟨Φ,Df g2 ?_,g3⟩⟩;rcases Dg hk _ g2 with z|z
     ·grind
     ·exact z
    ·exact .inr g1
  ·intro i' I W k g m s e A;rcases j5.1 I with rfl|I
   ·grind [cL]
   rcases j5.1 g with rfl|g
   ·grind [cL]
   exact t.WI i' I (bN W) k g (bN m) s e A
  ·have:=Bw t.size h1 h2;omega
 have hb1:=h b hb;have J:Region.wanted o (yielded l.toArray b.tmps)=true:=va hg hb
 have u:(bare o).wp P b w (λa w=>nG P l Q (j::done) (j::eff) (mC y F) .normal a w) (nG P l Q (j::done) (j::eff) (mC y F)):=by
  have:wpList P [bare o].toArray (nG P l Q (j::done) (j::eff) (mC y F)) [bare o] b w:=hb1;unfold wpList at this;rw [d7 (show Region.wanted (bare o) (yielded [bare o].toArray b.tmps)=true from rfl)] at this;rcases this with z|⟨_,a',w',z⟩
  ·exact z
  ·exact z.elim
 unfold wpOp;rw [dQ,hl];simp only [];rw [ef C,d7 J];left;unfold Oper.wp at u |-
 have hex:execOp b.eval (bare o)=execOp a.eval o:=by
  rw [iL hs C];rfl
 rw [hex] at u;generalize (execOp a.eval o).run P w=r at u |-;cases r with
 |ok n w'=>
  cases n with
  |value v=>exact next v w' _ _ rfl rfl (by rw [jk,jk,t.Wn]) u
  |skip=>exact next undef w' _ _ rfl rfl (by rw [jk,jk,t.Wn]) u
  |defer d=>exact next undef w' _ _ (by cases ho:o.dst<;>rfl) (by cases ho:o.dst<;>simp [bare,ho,Act.put]) (by rw [jk,jk,t.Wn]) u
  |enter f args=>
   refine Calls.mono u (λe K L=> ?_);cases e with
   |returned v=>exact next v K _ _ rfl rfl (by rw [jk,jk,t.Wn]) L
   |panicked c=>exact L.elim
   |outgrown=>obtain ⟨_,_,L⟩:=L;exact L.elim
  |row row args=>exact Rows.mono u (λv K L=>next v K _ _ rfl rfl (by rw [jk,jk,t.Wn]) L)
  |_=>exact u.elim
 |halt x w'=>
  cases x with
  |panic v=>exact u.elim
  |_=>exact u.elim
def SY(l:List Oper)(done i:List Nat):Bool:=(List.range l.length).all (λj=>mem? j done||mem? j i||(aft l j).any (λk=> !mem? k done))
def HD(l:List Oper)(done eff:List Nat)(i:Nat):Bool:=
 !mem? i done&&
 done.all (λj=>mem? j eff||mem? j (NE l i)||match eX l j with
  |none=>true
  |some s=> !mem? s (tv l i))&&
 (match eX l i with
  |none=>true
  |some d=>done.all (λj=>mem? j eff||mem? j (NE l i)||(!mem? d (tv l j)&& !(eX l j==some d))))
def Alt(P:Program)(l:List Oper)(N:Nat)(Q:Exit->Act->World->Prop)(done eff:List Nat)(F:oq)(fr:List (Nat×Value))(w:World)(i:Nat):Prop:=
 ∃(o:Oper)(k:List Nat),vg l i=some o/\gd l fr o=some true/\HD l done eff i=true/\wJ l i k F=true/\OW P [bare o] N (nG P l Q (i::done) (i::eff) (mC k F)) 0 fr w
theorem Alt.of(k:List Nat)(hl:vg l i=some o)(b:gd l fr o=some true)(a:HD l done eff i=true)(c:wJ l i k F=true)
 (h:OW P [bare o] N (nG P l Q (i::done) (i::eff) (mC k F)) 0 fr w):Alt P l N Q done eff F fr w i:=⟨o,k,hl,b,a,c,h⟩
theorem MH:∀i,i∈([]:List Nat)->K i:=λi h=>absurd h znm
theorem Dh(h:K sz)(a:∀i,i∈S->K i):∀i,i∈sz::S->K i:=λi hi=>by
 grind
theorem OA.acts(Z:List Nat)(R:Nat)(O:Bz l=true)(E:mem? R Z&& !mem? R done&&Nat.blt R l.length=true)(S:SY l done Z=true)
  (T:∀i,i∈Z->Alt P l N Q done eff F fr w i):OA P l N Q done eff F fr w:=by
 intro b hb;unfold Bz at O;rw [zae] at O;simp only [zae] at E;refine sF O.1 O.2 (λlisted a t hr=> ?_) (λD listed a t hc j hj U=> ?_)
 ·exact absurd (t.sub R (Bx O.1 t.size hr R (by simpa [x6] using E.2))) (not_mem? E.1.2)
 obtain ⟨h1,h2,h3⟩:=(lP t.size).1 hj;have V:∀k∈NE l j,listed.getD k false=true:=rH (p:=λk=>listed.getD k false=true) t.down _ _ _ h3 (λx hx=>absurd hx znm)
 have A:∀j,listed.getD j false=false->mem? j eff=false:=λj hj=>by
  cases hm:mem? j eff with
  |false=>rfl
  |true=>rw [t.eff j (mem?_iff.1 hm)] at hj;cases hj
 have e:j∈Z:=by
  have:=yf.1 S j (by simpa using h1);simp only [s7] at this;rcases this with (y|y)|y
  ·exact absurd (mem?_iff.1 y) U
  ·exact mem?_iff.1 y
  ·obtain ⟨k,hk1,hk2⟩:=List.any_eq_true.1 y;exact absurd (t.sub k (h3 k hk1)) (not_mem? hk2)
 obtain ⟨o,B,hl,hg,G,hk,h⟩:=T j e;unfold HD at G;simp only [zae] at G;obtain ⟨⟨hn,hlk⟩,hd⟩:=G;have hn:=not_mem? hn;have hs:aE o.op=true:=yf.1 O.2 o (zmg (tQ hl));have hdi:eX l j=o.dst:=by unfold eX;rw [hl];rfl
 have hli:tv l j=lk l o:=by unfold tv;rw [hl]
 have C:∀s∈lk l o,a.tmps[s]? =b.tmps[s]? :=λs z=>t.same s (λk g m e=>by
  have:=yf.1 hlk k g;rw [A k m,Bool.false_or,e] at this;simp only [s7] at this;rcases this with y|y
  ·rw [V k (mem?_iff.1 y)] at m;cases m
  grind [not_mem?])
 have hd1:∀d,o.dst=some d->∀k∈done,listed.getD k false=false->d∉tv l k/\eX l k≠some d:=by
  intro d e k g m;rw [hdi,e] at hd;have:=yf.1 hd k g;rw [A k m,Bool.false_or] at this;simp only [s7,zae] at this;rcases this with y|y
  ·rw [V k (mem?_iff.1 y)] at m;cases m
  grind [not_mem?]
 have next:∀(v:Value)(w':World)(a1 W:Act),a1.tmps=(a.put o.dst v).tmps->W.tmps=(b.put o.dst v).tmps->a1.defers=W.defers->nG P l Q (j::done) (j::eff) (mC B F) .normal W w'->
   wpAny P .any l.toArray Q D (listed.setIfInBounds j true) a1 w':=by
  intro v w' a1 W ea eb ed hA;obtain ⟨hf,hA⟩:=hA;have isz:j<listed.size:=by rw [t.size];exact h1
  refine hA D _ a1 ⟨by simpa using t.size,by rw [ea,eb,fS,fS,t.Wv],ed,λk g=> ?_,λk g q hq=> ?_,λk g=> ?_,λs z=> ?_,λp hp' _=>De hf p hp',λk g m=> ?_,?_⟩ ?_
  ·by_cases e:j=k
   ·grind
   ·rw [getD_set_ne false e] at g;exact zcm _ (t.sub k g)
  ·by_cases e:j=k
   ·subst e;exact getD_set_true (h3 q hq)
   ·rw [getD_set_ne false e] at g;exact getD_set_true (t.down k g q hq)
  ·rcases j5.1 g with rfl|g
   ·exact cL isz
   ·exact getD_set_true (t.eff k g)
  ·rw [ea,eb];by_cases e:o.dst=some s
   ·rw [e];by_cases X:s<b.tmps.size
    ·rw [Ai X,Ai (by rw [t.Wv];exact X)]
    ·rw [Array.getElem?_eq_none (by rw [fS,t.Wv];omega),Array.getElem?_eq_none (by grind [fS])]
   ·rw [yn e,yn e]
    exact t.same s (λk g m=>z k (zcm _ g) (by
     have:j≠k:=λe2=>U (by rw [e2];exact g)
     rw [getD_set_ne false this];exact m))
  ·rcases j5.1 g with rfl|g
   ·grind [cL]
   have m:=bN m;obtain ⟨o',v',ho',z,hdst',I⟩:=t.VE k g m;have hlj:tv l k=lk l o':=by grind [tv]
   have hdj:eX l k=o'.dst:=by grind [eX]
   have e1:∀s∈lk l o',W.tmps[s]? =b.tmps[s]? :=λs hs2=>by
    grind [yn]
   refine ⟨o',v',ho',z,λd e=> ?_,?_⟩
   ·grind [yn]
   ·rw [ef e1,iL z e1];rcases I with ⟨g1,g2|⟨Φ,g2,g3⟩⟩|g1
    ·grind
    ·refine .inl ⟨g1,.inr ⟨Φ,Df g2 ?_,g3⟩⟩;rcases Dg hk _ g2 with y|y
     ·grind
     ·exact y
    ·exact .inr g1
  ·intro i' J Y k g m s e z;rcases j5.1 J with rfl|J
   ·grind [cL]
   rcases j5.1 g with rfl|g
   ·grind [cL]
   exact t.WI i' J (bN Y) k g (bN m) s e z
  ·have:=Bw t.size h1 h2;omega
 have hb1:=h b hb;have K:Region.wanted o (yielded l.toArray b.tmps)=true:=va hg hb
 have u:(bare o).wp P b w (λa w=>nG P l Q (j::done) (j::eff) (mC B F) .normal a w) (nG P l Q (j::done) (j::eff) (mC B F)):=by
  have:wpList P [bare o].toArray (nG P l Q (j::done) (j::eff) (mC B F)) [bare o] b w:=hb1;unfold wpList at this;rw [d7 (show Region.wanted (bare o) (yielded [bare o].toArray b.tmps)=true from rfl)] at this;rcases this with y|⟨_,a',w',y⟩
  ·exact y
  ·exact y.elim
 unfold wpOp;rw [dQ,hl];simp only [];rw [ef C,d7 K];left;unfold Oper.wp at u |-
 have hex:execOp b.eval (bare o)=execOp a.eval o:=by
  rw [iL hs C];rfl
 rw [hex] at u;generalize (execOp a.eval o).run P w=r at u |-;cases r with
 |ok n w'=>
  cases n with
  |value v=>exact next v w' _ _ rfl rfl (by rw [jk,jk,t.Wn]) u
  |skip=>exact next undef w' _ _ rfl rfl (by rw [jk,jk,t.Wn]) u
  |defer d=>exact next undef w' _ _ (by cases ho:o.dst<;>rfl) (by cases ho:o.dst<;>simp [bare,ho,Act.put]) (by rw [jk,jk,t.Wn]) u
  |enter f args=>
   refine Calls.mono u (λe L M=> ?_);cases e with
   |returned v=>exact next v L _ _ rfl rfl (by rw [jk,jk,t.Wn]) M
   |panicked c=>exact M.elim
   |outgrown=>obtain ⟨_,_,M⟩:=M;exact M.elim
  |row row args=>exact Rows.mono u (λv L M=>next v L _ _ rfl rfl (by rw [jk,jk,t.Wn]) M)
  |_=>exact u.elim
 |halt x w'=>
  cases x with
  |panic v=>exact u.elim
  |_=>exact u.elim
theorem OA.next(a:holds F w)(h:OA P l N Q done eff F fr w):OW P [o] N (nG P l Q done eff F) 1 fr w:=
 f6 rfl (λb c=>⟨a,h b c⟩)
def nJ(P:Program)(l:List Oper)(N:Nat)(eff:List Nat):List Nat->List Nat->List (Nat×Value)->Option (List (Nat×Value))
 |[],_,fr=>some fr
 |i::r,done,fr=>match vg l i with
  |none=>none
  |some o=>match KJ l done eff i,aE o.op with
   |true,true=>match o.dst with
    |none=>match gd l fr o with
     |some false=>nJ P l N eff r (i::done) fr
     |_=>none
    |some d=>match Nat.blt d N with
     |false=>none
     |true=>match gd l fr o with
      |some true=>match MB P fr o with
       |some v=>nJ P l N eff r (i::done) ((d,v)::fr)
       |none=>none
      |some false=>nJ P l N eff r (i::done) ((d,undef)::fr)
      |none=>none
   |_,_=>none
def RY(a done:List Nat):List Nat:=match a with
 |[]=>done
 |i::r=>RY r (i::done)
theorem Gw:∀(s done:List Nat)(fr:List (Nat×Value)){g:List (Nat×Value)},nJ P l N eff s done fr=some g->OA P l N Q (RY s done) eff F g w->OA P l N Q done eff F fr w:=by
 intro s
 induction s with
 |nil=>intro done fr g h k;simp only [nJ,i6] at h;subst h;exact k
 |cons i r t=>
  intro done fr g h k;unfold nJ at h;split at h
  ·cases h
  ·rename_i o ho
   split at h
   ·rename_i j c
    split at h
    ·rename_i m
     split at h
     ·rename_i n
      refine OA.add (v:=undef) fr F ho j c (λb a=>by rw [m];exact a) (λp f=>f) (λp f=>.inl f) (λb a=>.inr ⟨va n a,rfl⟩) (λd e=>by grind) ?_
      exact t _ _ h k
     ·cases h
    ·rename_i d m
     split at h
     ·cases h
     ·rename_i u
      have q:∀x,o.dst=some x->x<N:=λx e=>by rw [m] at e;cases e;simpa [x6] using u
      split at h
      ·rename_i n
       split at h
       ·rename_i v y
        refine OA.add (v:=v) ((d,v)::fr) F ho j c (λb a=>by rw [m];exact a.put u) (λp f=>f) (λp f=>.inl f) (λb a=>.inl ⟨va n a,.inl (λw=>uV y a w)⟩) q ?_
        exact t _ _ h k
       ·cases h
      ·rename_i n
       refine OA.add (v:=undef) ((d,undef)::fr) F ho j c (λb a=>by rw [m];exact a.put u) (λp f=>f) (λp f=>.inl f) (λb a=>.inr ⟨va n a,rfl⟩) q ?_
       exact t _ _ h k
      ·cases h
   ·cases h
theorem OA.pure(i:List Nat)(new:List (Nat×Value))
  (h:(nJ P l N eff i done fr).map (λf=>rB f (aY [] (new++fr)))=some (kj (aY [] (new++fr))))
  (k:OA P l N Q (RY i done) eff F (new++fr) w):OA P l N Q done eff F fr w:=by
 cases b:nJ P l N eff i done fr with
 |none=>rw [b] at h;cases h
 |some f=>
  rw [b] at h;simp only [t6,i6] at h;exact Gw i done fr b (λa c=>k a (c.agrees h))
theorem OA.val(hl:vg l i=some o)(c:KJ l done eff i=true)(k:aE o.op=true)(m:gd l fr o=some true)(g:o.dst=some d)(j:Nat.blt d N=true)
  (n:∀b w,Rep N fr b->(execOp b.eval o).run P w=.ok (.value v) w)
  (h:OA P l N Q (i::done) eff F ((d,v)::fr) w):OA P l N Q done eff F fr w:=
 OA.add (v:=v) ((d,v)::fr) F hl c k (λb a=>by rw [g];exact a.put j) (λp f=>f) (λp f=>.inl f) (λb a=>.inl ⟨va m a,.inl (λw=>n b w a)⟩)
  (λq e=>by rw [g] at e;cases e;simpa [x6] using j) h
theorem OA.sees(a:World->Prop)(hl:vg l i=some o)(g:KJ l done eff i=true)(n:aE o.op=true)(q:gd l fr o=some true)(k:o.dst=some d)(m:Nat.blt d N=true)
  (r:∀b w,Rep N fr b->a w->(execOp b.eval o).run P w=.ok (.value v) w) (j:a w)
  (h:OA P l N Q (i::done) eff ((i,a)::F) ((d,v)::fr) w):OA P l N Q done eff F fr w:=
 OA.add (v:=v) ((d,v)::fr) ((i,a)::F) hl g n (λb f=>by rw [k];exact f.put m) (λp c=>zcm _ c)
  (λp c=>by
   rcases j5.1 c with rfl|c
   ·exact .inr j
   ·exact .inl c)
  (λb f=>.inl ⟨va q f,.inr ⟨a,zcs,λw j=>r b w f j⟩⟩)
  (λs e=>by rw [k] at e;cases e;simpa [x6] using m) h
theorem OA.split(s:Nat)(h:lK fr s=some (.bool M))(b:M=true->OA P l N Q done eff F ((s,.bool true)::fr) w)(c:M=false->OA P l N Q done eff F ((s,.bool false)::fr) w):OA P l N Q done eff F fr w:=by
 cases M with
 | true => exact fun a ha => b rfl a ⟨ha.size, ha.defers, fun j v hj => by
   rw [bF] at hj;by_cases e:s=j
   ·subst e;rw [d7 rfl] at hj;exact ha.get _ _ (h.trans hj)
   ·rw [d8 e] at hj;exact ha.get _ _ hj⟩
 | false => exact fun a ha => c rfl a ⟨ha.size, ha.defers, fun j v hj => by
   rw [bF] at hj;by_cases e:s=j
   ·subst e;rw [d7 rfl] at hj;exact ha.get _ _ (h.trans hj)
   ·rw [d8 e] at hj;exact ha.get _ _ hj⟩
theorem OA.ld(hl:vg l i=some ⟨some d,.load T x,ty,O,V,gdd⟩)(a:KJ l done eff i=true)
  (c:gd l fr ⟨some d,.load T x,ty,O,V,gdd⟩=some true) (e:Nat.blt d N=true) (f:look fr x=some (.pointer (some W))) (g:ax P (isAgg T)=some false) (b:w.cell? W=some v)
  (h:OA P l N Q (i::done) eff ((i,λw=>w.cell? W=some v)::F) ((d,v)::fr) w):OA P l N Q done eff F fr w:=by
 refine OA.sees (λw=>w.cell? W=some v) hl a rfl c rfl e (λW w j b=> ?_) b h;have k:=j.look f;simp [execOp,k,rC g b]
theorem OA.ldN(hl:vg l i=some ⟨some d,.load T x,ty,O,V,gdd⟩)(b:KJ l done eff i=true)
  (f:gd l fr ⟨some d,.load T x,ty,O,V,gdd⟩=some true) (g:Nat.blt d N=true) (c:List Value) (k:look fr x=some (.pointer (some ⟨sz,n,none⟩))) (m:ax P (isAgg T)=some true) (o:ax P (sizeOf T)=some c.length)
  (e:∀j u,c[j]? =some u->w.cell? ⟨sz,n+j,none⟩=some u)
  (h:OA P l N Q (i::done) eff ((i,λw=>∀j u,c[j]? =some u->w.cell? ⟨sz,n+j,none⟩=some u)::F) ((d,.agg c.toArray)::fr) w):OA P l N Q done eff F fr w:=by
 refine OA.sees (λw=>∀j u,c[j]? =some u->w.cell? ⟨sz,n+j,none⟩=some u) hl b rfl f rfl g (λa w p e=> ?_) e h;have q:=p.look k;simp [execOp,q,rD m o e]
open Go.RowKit
theorem E6(h:(Instr.loadAt ty (.pointer (some W))).run P w=.ok v w):(loadVar ty W).run P w=.ok v w:=by
 simpa [Instr.loadAt,Instr.sureAddr] using h
def od(x y:Int):Int:=if y<x then y else x
def sC(x y:Int):Int:=if y>x then y else x
def wo(s:ByteArray)(t:Int):Option Int:=match (if 0<=t then s[t.toNat]? else none) with
 |some b=>some (b.toNat:Int)
 |none=>none
theorem MD(ho:o.op=.index T x y)(d:look fr x=some (.string X))(e:look fr y=some (.int u q))
  (f:P.underlying T=some .string) (h:wo X q=some hi):∀a w,Rep N fr a->(execOp a.eval o).run P w=.ok (.value (.int .u8 hi)) w:=by
 intro a w c;have g:=c.look d;have i:=c.look e;unfold wo at h;split at h
 ·rename_i b j
  cases h
  simp [execOp,ho,Instr.index,g,i,asIntOf,run_underlying f,j]
 ·cases h
theorem ME(e sz:Nat)(ho:o.op=.indexAddr T x y)(b:look fr x=some (.pointer (some ⟨i,c,none⟩)))(d:look fr y=some (.int u q))
  (f:0<=q) (g:q<(n:Int)) (j:P.underlying T=some (.array n e)) (k:ax P (sizeOf e)=some sz):∀a w,Rep N fr a->(execOp a.eval o).run P w=.ok (.value (.pointer (some ⟨i,c+q.toNat*sz,none⟩))) w:=by
 intro a w h;have l:=h.look b;have m:=h.look d;simp [execOp,ho,Instr.indexAt,Instr.sureAddr,l,m,asIntOf,run_underlying j,f,g,qV k,dR]
def tV(P:Program)(eqv:TypeId->Value->Value->Option Bool)(xs g:Array Value):List Field->Option Bool
 |[]=>some true
 | f::r=>match f.name== "_",ax P (part f.type xs f.offset),ax P (part f.type g f.offset) with
  |false,some x,some y=>match eqv f.type x y,tV P eqv xs g r with
   |some b,some c=>some (b&&c)
   |_,_=>none
  |_,_,_=>none
def Km(P:Program):Nat->TypeId->Value->Value->Option Bool
 |0,_,_,_=>none
 |n+1,t,x,y=>match P.underlying t,x,y with
  |some (.int _),.int k a,.int c b=>if k=c then some (a==b) else none
  |some .bool,.bool a,.bool b=>some (a==b)
  |some .string,.string a,.string b=>some (a==b)
  |some (.struct f),.agg xs,.agg g=>match P.stoodInHeld t with
   |false=>tV P (Km P n) xs g f.toList
   |true=>none
  |_,_,_=>none
theorem HC(g:∀t x y r,eqv t x y=some r->(Op.equalIn d t x y).run P w=.ok r w):
  ∀{a:List Field} {r:Bool},tV P eqv Y Z a=some r->(Op.eqFields d Y Z a).run P w=.ok r w:=by
 intro a
 induction a with
 |nil=>intro r h;cases h;simp [Op.eqFields]
 |cons f a i=>
  intro r h;unfold tV at h;split at h
  ·rename_i x y j k l
   split at h
   ·rename_i b c m n
    cases h
    have e:f.name ≠ "_" :=by simpa using j
    have o:=qV k w;have p:=qV l w;have q:=g _ _ _ _ m;have s:=i n;unfold Op.eqFields;rw [d7 e];simp only [Sem.run_bind,o,p,q,Result.andThen_ok];cases b with
    |true=>simpa using s
    |false=>simp
   ·cases h
  ·cases h
theorem Kn(w:World):∀(n:Nat){t:TypeId}{x y:Value}{r:Bool},Km P n t x y=some r->∀d,n<=d->(Op.equalIn d t x y).run P w=.ok r w:=by
 intro n
 induction n with
 |zero=>intro t x y r h;cases h
 |succ n j=>
  intro t x y r h d k;obtain ⟨d,rfl⟩:∃e,d=e+1:=⟨d-1,by omega⟩
  unfold Km at h;split at h
  ·rename_i a
   split at h
   ·rename_i c
    cases h
    simp [Op.equalIn,run_underlying a,c]
   ·cases h
  ·rename_i a
   cases h
   simp [Op.equalIn,run_underlying a]
  ·rename_i a
   cases h
   simp [Op.equalIn,run_underlying a]
  ·rename_i f xs g a
   split at h
   ·rename_i i
    have b:P.fieldsOf t=f:=by unfold Program.fieldsOf;rw [a]
    rw [run_equalIn_struct w d t xs g (by rw [b];exact a) i,b]
    grind [HC]
   ·cases h
  ·cases h
theorem PE{t2:TypeId}(ho:o.op=.binOp .eql T x y t2)(c:look fr x=some (.agg Y))(d:look fr y=some (.agg Z))
  (e:P.eqGuardType P.depth T=false) (h:Km P 9 T (.agg Y) (.agg Z)=some M):∀a w,Rep N fr a->(execOp a.eval o).run P w=.ok (.value (.bool M)) w:=by
 intro a w b;have f:=b.look c;have g:=b.look d;have i:=run_eqGuard_agg (P:=P) w .eql T x y Y Z e;have j:=Kn w 9 h 10000 (by omega);simp [execOp,ho,f,g,i,run_eql_struct,j]
def cut(xs:List α)(l hi:Int):Option (List α):=if 0<=l/\l<=hi/\hi<=xs.length then some ((xs.take hi.toNat).drop l.toNat) else none
theorem bA(h:cut xs q hi=some g):0<=q/\q<=hi/\hi<=xs.length/\g=(xs.take hi.toNat).drop q.toNat:=by
 grind [cut]
theorem kK(h:cut xs q hi=some g):g.length=hi.toNat-q.toNat:=by
 obtain ⟨a,b,c,rfl⟩:=bA h
 grind
theorem Rz(h:cut xs q hi=some g):g.length<=xs.length:=by
 obtain ⟨a,b,c,rfl⟩:=bA h
 grind
theorem PF(h:cut xs 0 hi=some g)(a:idx g q=some z):idx xs q=some z:=by
 obtain ⟨b,c,d,rfl⟩:=bA h
 grind [zX,idx]
theorem St.cap{L:List Item}(h:St s r w L)(j:Nat){α:Type}{p:α->List Value}{xs:List α}(d:L[j]? =some (qb (.slice a n c) T p sz xs)):xs.length<=c:=by
 have e:=h.all j _ d;rcases e.2 with ⟨l,b,f⟩|⟨g,o,cap,i,f,_,_,k,_⟩
 ·omega
 grind
theorem sD(sz:Nat)(ho:o.op=.slice T x none (some y) none)(i:look fr x=some (.slice a n c))(j:look fr y=some (.int u q))
  (h:cut xs 0 q=some g) (d:xs.length<=c) (k:P.underlying T=some (.slice e)) (l:ax P (sizeOf e)=some sz):∀b w,Rep N fr b->(execOp b.eval o).run P w=.ok (.value (.slice a g.length c)) w:=by
 intro b w f;have m:=f.look i;have p:=f.look j;obtain ⟨v,r,A,_⟩:=bA h;have hl:=kK h;have s:0<=q/\q<=(c:Int):=⟨r,by omega⟩
 have B:q.toNat-0=g.length:=by simpa using hl.symm
 have t:(if c=0 then a else a.map (λx=>x.add 0))=a:=by
  split
  ·rfl
  ·cases a with
   |none=>rfl
   |some z=>simp [Addr.add]
 simp [execOp,ho,Instr.sliceAt,Instr.slice,Instr.sliceBounds,Instr.sliceBound,run_underlying k,m,p,asIntOf,s,qV l,hl,t]
theorem Bv{t2:TypeId}(ho:o.op=.binOp .eql T x y t2)(d:look fr x=some (.slice a n c))(f:look fr y=some (.slice none 0 0))(g:P.underlying T=some (.slice e)):
  ∀b w,Rep N fr b->(execOp b.eval o).run P w=.ok (.value (.bool a.isNone)) w:=by
 intro b w h;have i:=h.look d;have j:=h.look f
 have k:(binOp .eql T (.slice a n c) (.slice none 0 0)).run P w=.ok (.bool a.isNone) w:=by
  exact Lib.run_eql_slice_nil w T e a n c 0 0 g
 simp [execOp,ho,i,j,eqGuard,k]
def Ag(k:IntKind)(x y:Int):Int:=k.wrap (BitVec.ofInt k.bits x &&& BitVec.ofInt k.bits y).toNat
def bOr(k:IntKind)(x y:Int):Int:=k.wrap (BitVec.ofInt k.bits x ||| BitVec.ofInt k.bits y).toNat
def ND(k:IntKind)(x y:Int):Int:=k.wrap (BitVec.ofInt k.bits x ^^^ BitVec.ofInt k.bits y).toNat
def Ah(k:IntKind)(x y:Int):Int:=k.wrap (x*2^(min y.toNat k.bits))
def kr(k:IntKind)(x y:Int):Int:=x.fdiv (2^(min y.toNat k.bits))
def nn(y:Int):Option Unit:=if y<0 then none else some ()
theorem RA(h:nn hi=some a0):¬ hi<0:=by
 grind [nn]
theorem PG{t2:TypeId}(ho:o.op=.binOp .shl T x y t2)(a:look fr x=some (.int u hi))(b:look fr y=some (.int yk q))(c:¬ q<0):
  ∀r w,Rep N fr r->(execOp r.eval o).run P w=.ok (.value (.int u (Ah u hi q))) w:=by
 intro r w h;have e:=h.look a;have d:=h.look b;simp [execOp,ho,e,d,eqGuard,binOp,Op.shift,c,Ah]
theorem PH{t2:TypeId}(ho:o.op=.binOp .shr T x y t2)(a:look fr x=some (.int u hi))(b:look fr y=some (.int yk q))(c:¬ q<0):
  ∀r w,Rep N fr r->(execOp r.eval o).run P w=.ok (.value (.int u (kr u hi q))) w:=by
 intro r w h;have e:=h.look a;have d:=h.look b;simp [execOp,ho,e,d,eqGuard,binOp,Op.shift,c,kr]
open Go.RowKit
theorem St.repart(h:St s r w L)(d:∀(i:Nat)(c:Item),L'[i]? =some c->c.Φ w/\c.S.Nodup/\∀x∈c.S,x∈fp L)
  (e:∀(i j:Nat)(a b:Item),i≠j->L'[i]? =some a->L'[j]? =some b->∀x∈a.S,x∉b.S):St s r w L':=
 ⟨h.chg,λi c hi=>(d i c hi).1,λi c hi=>(d i c hi).2.1,e,λi c hi x f=>by
  obtain ⟨j,g,k,l⟩:=vG.1 ((d i c hi).2.2 x f);exact h.own j g k x l⟩
theorem St.swap(h:St s r w L)(k:Nat)(f:L[k]? =some A)(E:A'.Φ w)(t:A'.S.Nodup)(g:∀b∈A'.S,b∈A.S)(F:B.Φ w)(u:B.S.Nodup)(j:∀b∈B.S,b∈A.S)(z:∀b∈A'.S,b∉B.S):
  St s r w (L.set k A'++[B]):=by
 have G:k<L.length:=(zes.1 f).1
 have v:∀(m:Nat)(i:Item),(L.set k A'++[B])[m]? =some i->(m=k/\i=A')\/(m=L.length/\i=B)\/(m≠k/\m<L.length/\L[m]? =some i):=by
  grind
 refine h.repart (λm i l=> ?_) (λm n a b y l I x c d=> ?_)
 ·rcases v m i l with ⟨_,rfl⟩|⟨_,rfl⟩|⟨_,_,l⟩
  ·exact ⟨E,t,λx q=>vG.2 ⟨k,_,f,g x q⟩⟩
  ·exact ⟨F,u,λx q=>vG.2 ⟨k,_,f,j x q⟩⟩
  ·exact ⟨h.all m i l,h.nd m i l,λx q=>vG.2 ⟨m,i,l,q⟩⟩
 ·rcases v m a l with ⟨J,rfl⟩|⟨J,rfl⟩|⟨C,M,o⟩<;>rcases v n b I with ⟨K,rfl⟩|⟨K,rfl⟩|⟨D,N,p⟩
  ·omega
  ·exact z x c d
  ·exact h.apart k n A b (λe=>D e.symm) f p x (g x c) d
  ·exact z x d c
  ·omega
  ·exact h.apart k n A b (λe=>D e.symm) f p x (j x c) d
  ·exact h.apart m k a A C o f x c (g x d)
  ·exact h.apart m k a A C o f x c (j x d)
  ·exact h.apart m n a b y o p x c d
theorem St.fuse(h:St s r w L)(k j:Nat)(u:Nat.beq k j=false)(D:L[k]? =some A)(E:L[j]? =some B)(F:C.Φ w)(v:C.S.Nodup)(G:∀b∈C.S,b∈A.S\/b∈B.S):
  St s r w ((L.set k C).set j nilI):=by
 have I:k≠j:=r7 u;have J:k<L.length:=(zes.1 D).1;have K:j<L.length:=(zes.1 E).1
 have t:∀(m:Nat)(i:Item),((L.set k C).set j nilI)[m]? =some i->(m=j/\i=nilI)\/(m=k/\i=C)\/(m≠k/\m≠j/\L[m]? =some i):=by
  grind
 have inS:∀x∈C.S,∃m i,(m=k\/m=j)/\L[m]? =some i/\x∈i.S:=by
  grind
 refine h.repart (λm i e=> ?_) (λm n a b g e z x d c=> ?_)
 ·rcases t m i e with ⟨_,rfl⟩|⟨_,rfl⟩|⟨_,_,e⟩
  ·exact ⟨trivial,o5,λx l=>absurd l znm⟩
  ·refine ⟨F,v,λx l=> ?_⟩;obtain ⟨M,i,_,o,p⟩:=inS x l;exact vG.2 ⟨M,i,o,p⟩
  ·exact ⟨h.all m i e,h.nd m i e,λx l=>vG.2 ⟨m,i,e,l⟩⟩
 ·rcases t m a e with ⟨_,rfl⟩|⟨rfl,rfl⟩|⟨Q,R,q⟩
  ·exact absurd d znm
  ·rcases t n b z with ⟨_,rfl⟩|⟨rfl,rfl⟩|⟨N,O,f⟩
   ·exact absurd c znm
   ·exact g rfl
   ·obtain ⟨y,i,P,o,p⟩:=inS x d;exact h.apart y n i b (by grind) o f x p c
  ·rcases t n b z with ⟨_,rfl⟩|⟨rfl,rfl⟩|⟨N,O,f⟩
   ·exact absurd c znm
   ·obtain ⟨y,i,P,o,p⟩:=inS x c;exact h.apart m y a i (by grind) q o x d p
   ·exact h.apart m n a b g q f x d c
theorem St.turn(h:St s r w L)(k:Nat)(j:L[k]? =some A)(l:A'.Φ w)(o:A'.S=A.S):St s r w (L.set k A'):=by
 have d:=h.swap k (A':=A') (B:=nilI) j l (by rw [o];exact h.nd k A j) (by grind) trivial o5 (λb e=>absurd e znm) (λb _ e=>absurd e znm)
 have hl:(L.set k A').length<=(L.set k A'++[nilI]).length:=by simp
 refine d.repart (λm i f=> ?_) (λm n a b g f q=> ?_)
 ·have c:(L.set k A'++[nilI])[m]? =some i:=by rw [ye (zes.1 f).1];exact f
  exact ⟨d.all m i c,d.nd m i c,λx p=>vG.2 ⟨m,i,c,p⟩⟩
 ·exact d.apart m n a b g (by grind) (by grind)
def vL(w:World)(S:List Nat)(B:List Item):Prop:=
 (∀(i:Nat)(c:Item),B[i]? =some c->c.Φ w/\c.S.Nodup/\∀b∈c.S,b∈S)/\∀(i j:Nat)(a b:Item),i≠j->B[i]? =some a->B[j]? =some b->∀x∈a.S,x∉b.S
theorem vL.nil:vL w S []:=⟨λi c h=>by simp at h,λi j a b _ h=>by simp at h⟩
theorem bz(hi:(a1++m)[i]? =some k):(i<a1.length/\a1[i]? =some k)\/(a1.length<=i/\m[i-a1.length]? =some k):=by
 grind
theorem vL.cons(l:A.Φ w)(m:A.S.Nodup)(n:∀b∈A.S,b∈S)(g:∀b∈A.S,b∉S2)(h:vL w S2 L)(o:∀b∈S2,b∈S):vL w S (A::L):=by
 refine ⟨λi x hi=> ?_,λi j a b e hi d y f=> ?_⟩
 ·cases i with
  |zero=>simp at hi;subst hi;exact ⟨l,m,n⟩
  |succ i=>obtain ⟨a1,p,k⟩:=h.1 i x (by simpa using hi);exact ⟨a1,p,λb c=>o b (k b c)⟩
 ·cases i with
  |zero=>
   cases j with
   |zero=>exact absurd rfl e
   |succ j=>
    simp at hi;subst hi;exact λc=>g y f ((h.1 j b (by simpa using d)).2.2 y c)
  |succ i=>
   cases j with
   |zero=>
    simp at d;subst d;exact λc=>g y c ((h.1 i a (by simpa using hi)).2.2 y f)
   |succ j=>exact h.2 i j a b (by omega) (by simpa using hi) (by simpa using d) y f
theorem St.burst(h:St s r w L)(j:Nat)(o:L[j]? =some A)(p:vL w A.S L'):St s r w (L.set j nilI++L'):=by
 have z:j<L.length:=(zes.1 o).1
 have q:∀(m:Nat)(i:Item),(L.set j nilI++L')[m]? =some i->(i=nilI)\/(m≠j/\m<L.length/\L[m]? =some i)\/(L.length<=m/\L'[m-L.length]? =some i):=by
  grind
 refine h.repart (λm i g=> ?_) (λm n a b u g v x e d=> ?_)
 ·rcases q m i g with rfl|⟨_,_,g⟩|⟨_,g⟩
  ·exact ⟨trivial,o5,λx l=>absurd l znm⟩
  ·exact ⟨h.all m i g,h.nd m i g,λx l=>vG.2 ⟨m,i,g,l⟩⟩
  ·obtain ⟨a1,B,k⟩:=p.1 _ i g;exact ⟨a1,B,λx l=>vG.2 ⟨j,A,o,k x l⟩⟩
 ·rcases q m a g with rfl|⟨y,D,f⟩|⟨y,f⟩
  ·exact absurd e znm
  ·rcases q n b v with rfl|⟨t,C,c⟩|⟨t,c⟩
   ·exact absurd d znm
   ·exact h.apart m n a b u f c x e d
   ·exact h.apart m j a A y f o x e ((p.1 _ b c).2.2 x d)
  ·rcases q n b v with rfl|⟨t,C,c⟩|⟨t,c⟩
   ·exact absurd d znm
   ·exact h.apart n j b A t c o x d ((p.1 _ a f).2.2 x e)
   ·exact p.2 (m-L.length) (n-L.length) a b (by omega) f c x e d
theorem St.gather(h:St s r w L)(e c:List Nat)(N:zT (e++c)=true)(P:C.Φ w)(Q:C.S.Nodup)(R:∀b∈C.S,b∈fp (sel L e)):St s r w (sel L c++[C]):=by
 have z:∀(m:Nat)(d:Item),(sel L c)[m]? =some d->d=nilI\/∃q,c[m]? =some q/\L[q]? =some d:=by
  grind [eS,xS]
 have O:∀b∈C.S,∃(k q:Nat)(d:Item),e[k]? =some q/\L[q]? =some d/\b∈d.S:=by
  intro b T;obtain ⟨k,d,U,A⟩:=vG.1 (R b T);obtain ⟨q,B,f⟩:=eS U;rcases xS f with f|rfl
  ·grind
  ·exact absurd A znm
 have D:∀(m:Nat)(d:Item),(sel L c)[m]? =some d->∀x∈d.S,x∉C.S:=by
  intro m d l x g E;rcases z m d l with rfl|⟨q,B,f⟩
  ·exact absurd g znm
  ·obtain ⟨k,o,p,F,u,G⟩:=O x E;have V:k<e.length:=(zes.1 F).1;have t:o≠q:=cI N (i:=k) (j:=e.length+m) (by omega) (by grind) (by grind);exact h.apart o q p d t u f x G g
 have I:∀(m:Nat)(d:Item),(sel L c++[C])[m]? =some d->(m<(sel L c).length/\(sel L c)[m]? =some d)\/(m=(sel L c).length/\d=C):=by
  grind
 refine h.repart (λm d l=> ?_) (λm n a b W l J x v y=> ?_)
 ·rcases I m d l with ⟨_,l⟩|⟨_,rfl⟩
  ·rcases z m d l with rfl|⟨q,B,f⟩
   ·exact ⟨trivial,o5,λx g=>absurd g znm⟩
   ·exact ⟨h.all q d f,h.nd q d f,λx g=>vG.2 ⟨q,d,f,g⟩⟩
  ·refine ⟨P,Q,λx g=> ?_⟩;obtain ⟨k,o,p,F,u,G⟩:=O x g;exact vG.2 ⟨o,p,u,G⟩
 ·rcases I m a l with ⟨_,K⟩|⟨X,rfl⟩
  ·rcases I n b J with ⟨_,M⟩|⟨_,rfl⟩
   ·rcases z m a K with rfl|⟨q,B,f⟩
    ·exact absurd v znm
    ·rcases z n b M with rfl|⟨o,F,u⟩
     ·exact absurd y znm
     ·have t:q≠o:=cI N (i:=e.length+m) (j:=e.length+n) (by omega) (by grind) (by grind);exact h.apart q o a b t f u x v y
   grind
  grind
structure Rp (α:Type) where
 sz:Nat
 own:World->List Value->List Nat->α->Prop
 rd:World->List Nat->α->List Value->Prop
 len:∀w cs S x,own w cs S x->cs.length=sz
 loc:∀w w' cs S x,(∀b∈S,w'.heap[b]? =w.heap[b]?)->own w cs S x->own w' cs S x
 lt:∀w cs S x,own w cs S x->∀b∈S,b<w.heap.size
 nd:∀w cs S x,own w cs S x->S.Nodup
 see:∀w cs S x F,own w cs S x->(∀b∈S,b∉F)->rd w F x cs
 rlen:∀w F x cs,rd w F x cs->cs.length=sz
 Vk:∀w w' F F' x cs,(∀b,b<w.heap.size->b∉F->w'.heap[b]? =w.heap[b]?)->(∀b∈F',b∈F\/w.heap.size<=b)->rd w F x cs->rd w' F' x cs
def itI(R:Rp α)(c:List Value)(S:List Nat)(x:α):Item where
 S:=S
 Φ w:=R.own w c S x
 loc w w' h hb:=R.loc w w' c S x h hb
 lt w h:=R.lt w c S x h
theorem Rd.far(h:Rd w S v p sz xs)(k:∀b,b<w.heap.size->b∉S->w'.heap[b]? =w.heap[b]?)(l:∀b∈F',b∈S\/w.heap.size<=b):
  Rd w' F' v p sz xs:=by
 obtain ⟨m,a,c,n,e,q⟩:=h;refine ⟨m,a,c,n,e,λt x f u r s=> ?_⟩;obtain ⟨b,o,y,i,d⟩:=q t x f u r s;have g:b<w.heap.size:=mr d;refine ⟨b,o,y,λz=> ?_,(World.cell?_of_block (k b g i)).trans d⟩;rcases l b z with j|j
 ·exact i j
 ·omega
def tu(p:α->List Value)(sz:Nat)(a:∀x,(p x).length=sz):Rp α where
 sz:=sz
 own _ c S x:=c=p x/\S=[]
 rd _ _ x c:=c=p x
 len:=by rintro w c S x ⟨rfl,_⟩;exact a x
 loc:=by rintro w w' c S x _ h;exact h
 lt:=by rintro w c S x ⟨_,rfl⟩;simp
 nd:=by rintro w c S x ⟨_,rfl⟩;exact o5
 see:=by rintro w c S x F ⟨rfl,_⟩ _;rfl
 rlen:=by rintro w F x c rfl;exact a x
 Vk:=by rintro w w' F F' x c _ _ h;exact h
def nF(T:TypeId)(p:α->List Value)(sz:Nat)(b:∀x,(p x).length=sz)(g:0<sz):Rp (List α) where
 sz:=1
 own w c S xs:=∃v,c=[v]/\S=(cM v).toList/\dw w T sz v xs.length (jO p xs)
 rd w F xs c:=∃v,c=[v]/\Rd w F v p sz xs
 len:=by rintro w c S x ⟨v,rfl,_⟩;rfl
 loc:=by
  rintro w w' c S x h ⟨v,rfl,rfl,a⟩;exact ⟨v,rfl,rfl,a.loc h⟩
 lt:=by
  rintro w c S x ⟨v,rfl,rfl,a⟩;exact a.lt
 nd:=by
  rintro w c S x ⟨v,rfl,rfl,a⟩;exact db
 see:=by
  rintro w c S x F ⟨v,rfl,rfl,a⟩ d;exact ⟨v,rfl,lM b a d⟩
 rlen:=by rintro w F x c ⟨v,rfl,_⟩;rfl
 Vk:=by rintro w w' F F' x c e f ⟨v,rfl,h⟩;exact ⟨v,rfl,h.far e f⟩
def jo(A:Rp α)(B:Rp β):Rp (α×β) where
 sz:=A.sz+B.sz
 own w j S p:=∃c d k S2,j=c++d/\S=k++S2/\(∀b∈k,b∉S2)/\A.own w c k p.1/\B.own w d S2 p.2
 rd w F p j:=∃c d,j=c++d/\A.rd w F p.1 c/\B.rd w F p.2 d
 len:=by
  rintro w j S x ⟨c,d,k,S2,rfl,rfl,_,g,i⟩;rw [l8,A.len _ _ _ _ g,B.len _ _ _ _ i]
 loc:=by
  rintro w w' j S x h ⟨c,d,k,S2,rfl,rfl,l,g,i⟩;exact ⟨c,d,k,S2,rfl,rfl,l,A.loc w w' _ _ _ (λb f=>h b (zal _ f)) g,B.loc w w' _ _ _ (λb f=>h b (zar _ f)) i⟩
 lt:=by
  rintro w j S x ⟨c,d,k,S2,rfl,rfl,l,g,i⟩ b f;rcases f8.1 f with f|f
  ·exact A.lt _ _ _ _ g b f
  ·exact B.lt _ _ _ _ i b f
 nd:=by
  rintro w j S x ⟨c,d,k,S2,rfl,rfl,l,g,i⟩;exact k6.2 ⟨A.nd _ _ _ _ g,B.nd _ _ _ _ i,λa q b f e=>by subst e;exact l a q f⟩
 see:=by
  rintro w j S x F ⟨c,d,k,S2,rfl,rfl,l,g,i⟩ m;exact ⟨c,d,rfl,A.see _ _ _ _ F g (λb f=>m b (zal _ f)),B.see _ _ _ _ F i (λb f=>m b (zar _ f))⟩
 rlen:=by
  rintro w F x j ⟨c,d,rfl,g,i⟩;rw [l8,A.rlen _ _ _ _ g,B.rlen _ _ _ _ i]
 Vk:=by
  rintro w w' F F' x j n o ⟨c,d,rfl,g,i⟩;exact ⟨c,d,rfl,A.Vk w w' F F' _ _ n o g,B.Vk w w' F F' _ _ n o i⟩
def fit(n:Nat)(c:List Value):List Value:=c.take n++List.replicate (n-c.length) undef
theorem du(n:Nat)(c:List Value):(fit n c).length=n:=by simp [fit];omega
theorem sZ(h:a4.length=n):fit n a4=a4:=by subst h;simp [fit]
theorem aS:∀{i:Nat},Ss.flatten.Nodup->S'.Nodup->(∀(k:Nat)(S:List Nat),k≠i->Ss[k]? =some S->∀b∈S',b∉S)->(Ss.set i S').flatten.Nodup:=by
 induction Ss with
 |nil=>intro i h _ _;simp
 |cons T r o=>
  intro i h m j;simp only [yb] at h;obtain ⟨p,n,q⟩:=k6.1 h;cases i with
  |zero=>
   simp only [List.set_cons_zero,yb];refine k6.2 ⟨m,n,λa g b d e=> ?_⟩;subst e;obtain ⟨S,c,d⟩:=j9.1 d;obtain ⟨k,s,rfl⟩:=w6.1 c;exact j (k+1) _ (by omega) (by simp) a g d
  |succ i=>
   simp only [List.set_cons_succ,yb];refine k6.2 ⟨p,o n m (λk S s l=>j (k+1) S (by omega) (by simpa using l)),λa g b d e=> ?_⟩;subst e;obtain ⟨S,c,f⟩:=j9.1 d;rcases r9 c with c|rfl
   ·exact q a g a (j9.2 ⟨S,c,f⟩) rfl
   ·exact j 0 T (by omega) rfl a f g
theorem jX(h:sz∈(Ss.set i S').flatten):sz∈S'\/sz∈Ss.flatten:=by
 obtain ⟨S,a,b⟩:=j9.1 h;rcases r9 a with a|rfl
 ·exact .inr (j9.2 ⟨S,a,b⟩)
 ·exact .inl b
theorem rF(h:Ss.flatten.Nodup):∀{i j:Nat} {A B:List Nat},i≠j->Ss[i]? =some A->Ss[j]? =some B->∀b∈A,b∉B:=by
 induction Ss with
 |nil=>intro i j A B _ hi;simp at hi
 |cons T r f=>
  intro i j A B d hi c b e a;simp only [yb] at h;obtain ⟨k,g,n⟩:=k6.1 h;cases i with
  |zero=>
   cases j with
   |zero=>exact d rfl
   |succ j=>
    simp only [TH,i6] at hi;subst hi;exact n b e b (j9.2 ⟨B,zmg (by simpa using c),a⟩) rfl
  |succ i=>
   cases j with
   |zero=>
    simp only [TH,i6] at c;subst c;exact n b a b (j9.2 ⟨A,zmg (by simpa using hi),e⟩) rfl
   |succ j=>exact f g (i:=i) (j:=j) (by omega) (by simpa using hi) (by simpa using c) b e a
theorem kb(h:idx a1 hi=some k):a1.set hi.toNat k=a1:=by
 have:=(zX h).2.2;apply o4
 grind
theorem PC(h:(List.replicate n k)[i]? =some a5):i<n/\k=a5:=by
 grind
theorem HA(h:a6.length=n):qG (fit n a4) a6 0=fit n a6:=by
 grind [du,fit,qG,sZ]
structure wI {α:Type} (w:World) (T:TypeId) (R:Rp α) (v:Value) (S:List Nat) (xs:List α) (ho:Option (Nat×List Value)) (css:List (List Value)) (Ss:List (List Nat)):Prop where
 row:dw w T R.sz v xs.length (jO (fit R.sz) css)
 lc:css.length=xs.length
 ls:Ss.length=xs.length
 hS:S=(cM v).toList++Ss.flatten
 nd:S.Nodup
 out:∀t cs,ho=some (t,cs)->cs.length=R.sz/\css[t]? =some cs/\Ss[t]? =some []
 own:∀(i:Nat)(cs:List Value)(S':List Nat)(x:α),(∀c,ho≠some (i,c))->css[i]? =some cs->Ss[i]? =some S'->xs[i]? =some x->R.own w cs S' x
variable {R:Rp α}
theorem wI.lt(h:wI w T R v S xs ho css Ss):∀b∈S,b<w.heap.size:=by
 intro b a;rw [h.hS] at a;rcases f8.1 a with a|a
 ·exact h.row.lt b a
 ·obtain ⟨S',d,a⟩:=j9.1 a;obtain ⟨i,hi,rfl⟩:=w6.1 d;have g:i<css.length:=by rw [h.lc,<- h.ls];exact hi
  have j:i<xs.length:=by rw [<- h.ls];exact hi
  by_cases f:∃c,ho=some (i,c)
  ·obtain ⟨c,e⟩:=f;have:=(h.out i c e).2.2
   grind
  ·exact R.lt _ _ _ _ (h.own i _ _ _ (λc e=>f ⟨c,e⟩) (zeg g) (zeg hi) (zeg j)) b a
theorem wI.loc(h:wI w T R v S xs ho css Ss)(c:∀b∈S,w'.heap[b]? =w.heap[b]?):wI w' T R v S xs ho css Ss:=by
 have f:=h.hS;refine ⟨h.row.loc (λb g=>c b (by grind)),h.lc,h.ls,h.hS,h.nd,h.out,λi d S' x j k e l=>R.loc w w' d S' x (λb a=>c b ?_) (h.own i d S' x j k e l)⟩;rw [f];exact zar _ (j9.2 ⟨S',zmg e,a⟩)
theorem ve(hi:(a1.set sz k)[i]? =some a5):(i=sz/\a5=k)\/(i≠sz/\a1[i]? =some a5):=by
 grind
theorem wI.take(h:wI w T R v S xs none css Ss)(p:xs[N]? =some z):
  ∃f l S2,css[N]? =some f/\f.length=R.sz/\R.own w f S2 z/\wI w T R v l xs (some (N,f)) css (Ss.set N [])/\(∀b∈S2,b∈S)/\(∀b∈l,b∈S)/\∀b∈l,b∉S2:=by
 have hl:=(zes.1 p).1;have a1:N<css.length:=by rw [h.lc];exact hl
 have k:N<Ss.length:=by rw [h.ls];exact hl
 have r:=h.nd;rw [h.hS] at r;obtain ⟨C,s,u⟩:=k6.1 r;have d:=h.own N css[N] Ss[N] z (by simp) (zeg a1) (zeg k) p
 have t:∀b∈(Ss.set N []).flatten,b∈Ss.flatten:=λb a=>by
  rcases jX a with a|a
  ·grind
  ·exact a
 have x:(Ss.set N []).flatten.Nodup:=aS s o5 (λ_ _ _ _ b a=>absurd a znm);refine ⟨css[N],(cM v).toList++(Ss.set N []).flatten,Ss[N],zeg a1,R.len _ _ _ _ d,d,⟨h.row,h.lc,by rw [j8];exact h.ls,rfl,?_,λq c e=> ?_,λi f S' y D A m B=> ?_⟩,λb a=> ?_,λb a=> ?_,λb a g=> ?_⟩
 ·grind
 ·simp only [i6,o7] at e;obtain ⟨rfl,rfl⟩:=e;exact ⟨R.len _ _ _ _ d,zeg a1,by grind⟩
 ·rcases ve m with ⟨rfl,rfl⟩|⟨j,m⟩
  ·grind
  ·exact h.own i f S' y (by simp) A m B
 ·rw [h.hS];exact zar _ (j9.2 ⟨Ss[N],yi k,a⟩)
 ·rw [h.hS]
  grind
 ·rcases f8.1 a with a|a
  ·exact u b a b (j9.2 ⟨Ss[N],yi k,g⟩) rfl
  ·obtain ⟨S',n,a⟩:=j9.1 a;obtain ⟨i,hi,rfl⟩:=w6.1 n;rcases ve (zeg hi) with ⟨_,e⟩|⟨j,o⟩
   ·grind
   ·exact rF s j o (zeg k) b a g
theorem wI.give(h:wI w T R v S xs ho css Ss){x y:α}(n:∀i c,ho=some (i,c)->i=N)(G:xs[N]? =some y)(p:R.own w' a4 S2 x)(q:∀b∈S,b∉S2)
  (u:∀b∈Ss.flatten,w'.heap[b]? =w.heap[b]?) (g:dw w' T R.sz v xs.length (jO (fit R.sz) (css.set N a4))):wI w' T R v ((cM v).toList++(Ss.set N S2).flatten) (xs.set N x) none (css.set N a4) (Ss.set N S2):=by
 have r:=h.nd;rw [h.hS] at r;obtain ⟨A,B,C⟩:=k6.1 r;have s:=h.hS;refine ⟨by rw [j8];exact g,by rw [j8,j8];exact h.lc,by rw [j8,j8];exact h.ls,rfl,?_,(λ_ _ e=>by cases e),λi c S' z _ j l m=> ?_⟩
 ·refine k6.2 ⟨A,aS B (R.nd _ _ _ _ p) (λk D _ E b f o=>q b (by rw [s];exact zar _ (j9.2 ⟨D,zmg E,o⟩)) f),λa t b f e=> ?_⟩
  subst e;rcases jX f with f|f
  ·exact q a (by rw [s];exact zal _ t) f
  ·exact C a t a f rfl
 ·rcases ve l with ⟨rfl,rfl⟩|⟨d,l⟩
  ·rcases ve j with ⟨_,rfl⟩|⟨d,_⟩
   ·rcases ve m with ⟨_,rfl⟩|⟨d,_⟩
    ·exact p
    ·exact absurd rfl d
   ·exact absurd rfl d
  ·rcases ve j with ⟨e,_⟩|⟨_,j⟩
   ·exact absurd e d
   ·rcases ve m with ⟨e,_⟩|⟨_,m⟩
    ·exact absurd e d
    ·exact R.loc w w' c S' z (λb f=>u b (j9.2 ⟨S',zmg l,f⟩)) (h.own i c S' z (λF e=>d (n i F e)) j l m)
theorem wI.app(h:wI w T R v S xs none css Ss)(k:wI w T R v2 S2 g none t Ss2)(r:∀b∈S,b∉S2)
  (s:∀b∈Ss.flatten++Ss2.flatten,w'.heap[b]? =w.heap[b]?) (f:cM v'=cM v\/cM v'=some w.heap.size) (u:dw w' T R.sz v' (xs.length+g.length) (jO (fit R.sz) css++jO (fit R.sz) t)):
  wI w' T R v' ((cM v').toList++(Ss++Ss2).flatten) (xs++g) none (css++t) (Ss++Ss2):=by
 have x:=h.nd;rw [h.hS] at x;obtain ⟨F,y,G⟩:=k6.1 x;have n:=k.nd;rw [k.hS] at n;obtain ⟨I,A,J⟩:=k6.1 n;have K:=h.lc;have L:=h.ls;have B:=k.lc;have C:=k.ls;refine ⟨by grind [uW],by simp;omega,by simp;omega,rfl,?_,(λ_ _ e=>by cases e),λi c S' z _ o j l=> ?_⟩
 ·rw [yx];refine k6.2 ⟨db,k6.2 ⟨y,A,λa m b d e=> ?_⟩,λa m b d e=> ?_⟩
  ·subst e;exact r a (by rw [h.hS];exact zar _ m) (by rw [k.hS];exact zar _ d)
  ·subst e;rcases f with f|f
   ·rw [f] at m;rcases f8.1 d with d|d
    ·grind
    ·exact r a (by rw [h.hS];exact zal _ m) (by rw [k.hS];exact zar _ d)
   ·rw [f] at m;simp at m
    have D:a<w.heap.size:=by
     rcases f8.1 d with d|d
     ·exact h.lt a (by rw [h.hS];exact zar _ d)
     ·exact k.lt a (by rw [k.hS];exact zar _ d)
    omega
 ·rcases bz o with ⟨E,o⟩|⟨E,o⟩
  ·rcases bz j with ⟨p,j⟩|⟨p,j⟩
   ·rcases bz l with ⟨q,l⟩|⟨q,l⟩
    ·exact R.loc w w' c S' z (λb d=>s b (zal _ (j9.2 ⟨S',zmg j,d⟩))) (h.own i c S' z (by simp) o j l)
    ·omega
   ·omega
  ·rcases bz j with ⟨p,j⟩|⟨p,j⟩
   ·omega
   ·rcases bz l with ⟨q,l⟩|⟨q,l⟩
    ·omega
    ·rw [show i-Ss.length=i-css.length by omega] at j;rw [show i-xs.length=i-css.length by omega] at l;exact R.loc w w' c S' z (λb d=>s b (zar _ (j9.2 ⟨S',zmg j,d⟩))) (k.own (i-css.length) c S' z (by simp) o j l)
def nI(T:TypeId)(R:Rp α)(v:Value)(S:List Nat)(xs:List α)(ho:Option (Nat×List Value)):Item where
 S:=S
 Φ w:=∃css Ss,wI w T R v S xs ho css Ss
 loc w w' hb h:=by obtain ⟨css,Ss,h⟩:=h;exact ⟨css,Ss,h.loc hb⟩
 lt w h:=by obtain ⟨css,Ss,h⟩:=h;exact h.lt
theorem RdN.far(B:0<R.sz)(h:RdN w S v R.rd R.sz xs)(j:∀b,b<w.heap.size->b∉S->w'.heap[b]? =w.heap[b]?)(k:∀b∈F',b∈S\/w.heap.size<=b):RdN w' F' v R.rd R.sz xs:=by
 obtain ⟨p,a,c,q,g,r⟩:=h;refine ⟨p,a,c,q,g,λt x s=> ?_⟩;obtain ⟨l,e,b,o,y,m,d⟩:=r t x s;have hl:=R.rlen _ _ _ _ e;have i:b<w.heap.size:=mr (d 0 l[0] (zeg (by omega)));refine ⟨l,R.Vk _ _ _ _ _ _ j k e,b,o,y,λz=> ?_,λf u A=>(World.cell?_of_block (j b i m)).trans (d f u A)⟩;rcases k b z with n|n
 ·exact m n
 ·omega
theorem wI.see{α:Type}{R:Rp α}{xs:List α}{Ss:List (List Nat)}(h:wI w T R v S xs none css Ss)(l:∀b∈S,b∉r):RdN w r v R.rd R.sz xs:=by
 have m:=h.hS
 have n:Rd w r v (fit R.sz) R.sz css:=by
  have d:=h.row;rw [<- h.lc] at d;exact lM (λx=>du _ x) d (λb p=>l b (by rw [m];exact zal _ p))
 obtain ⟨B,a,c,q,s,C⟩:=n;refine ⟨by rw [<- h.lc];exact B,a,c,by rw [q,h.lc],by rw [<- h.lc];exact s,λt x z=> ?_⟩
 have hl:=(zes.1 z).1;have a1:t<css.length:=by rw [h.lc];exact hl
 have A:t<Ss.length:=by rw [h.ls];exact hl
 have e:=h.own t css[t] Ss[t] x (by simp) (zeg a1) (zeg A) z;have j:=R.len _ _ _ _ e;refine ⟨css[t],R.see _ _ _ _ r e (λb p=>l b (by rw [m];exact zar _ (j9.2 ⟨Ss[t],yi A,p⟩))),?_⟩
 rcases h.row.2 with ⟨J,_⟩|⟨g,o,cap,D,rfl,E,K,F,L,G,y⟩
 ·omega
 ·simp only [Value.slice.injEq] at q;obtain ⟨rfl,_,_⟩:=q;refine ⟨g,o,rfl,l g (by rw [m];exact zal _ (by simp [xJ E])),λf u I=> ?_⟩
  obtain ⟨M,N,k,_,i⟩:=C t css[t] f u (zeg a1) (by rw [sZ j];exact I)
  simp only [i6,Addr.mk.injEq,and_true] at k;obtain ⟨rfl,rfl⟩:=k;exact i
def shd(a:Option Addr)(c l sz:Nat):Option Addr:=if c=l then a else a.map (·.add (l*sz))
theorem PD{g:List α}(h:cut xs q hi=some g)(a:g[sz]? =some z):xs[q.toNat+sz]? =some z:=by
 obtain ⟨b,c,d,rfl⟩:=bA h
 grind
theorem Rd.part(h:Rd w S (.slice a n c) p sz xs)(d:cut xs q hi=some g):
  Rd w S (.slice (shd a c q.toNat sz) g.length (c-q.toNat)) p sz g:=by
 obtain ⟨j,k,l,e,i,b⟩:=h;simp only [Value.slice.injEq] at e;obtain ⟨rfl,rfl,rfl⟩:=e;obtain ⟨m,o,r,_⟩:=bA d;have hl:=kK d;refine ⟨by omega,_,_,rfl,by omega,λt x f u s v=> ?_⟩
 grind [PD,shd,dR]
theorem Rd.pre(h:Rd w S (.slice a n c) p sz xs)(b:cut xs 0 hi=some g):Rd w S (.slice a g.length c) p sz g:=by
 have d:=h.part b
 have e:shd a c (Int.toNat 0) sz=a:=by
  unfold shd;split
  ·rfl
  ·cases a with
   |none=>rfl
   |some z=>simp [Addr.add]
 grind
theorem gy(sz:Nat)(ho:o.op=.slice T x (some y) none none)(f:look fr x=some (.slice a n c))(i:n=xs.length)(j:look fr y=some (.int u q))
  (h:cut xs q (xs.length:Int)=some g) (k:P.underlying T=some (.slice e)) (l:ax P (sizeOf e)=some sz):∀b w,Rep N fr b->(execOp b.eval o).run P w=.ok (.value (.slice (shd a c q.toNat sz) g.length (c-q.toNat))) w:=by
 intro b w d;have m:=d.look f;have p:=d.look j;obtain ⟨r,s,z,_⟩:=bA h;have hl:=kK h;subst i;have t:0<=q/\q<=(xs.length:Int):=⟨r,s⟩
 have v:xs.length-q.toNat=g.length:=by omega
 simp [execOp,ho,Instr.sliceAt,Instr.slice,Instr.sliceBounds,Instr.sliceBound,run_underlying k,m,p,asIntOf,t,qV l,v,shd]
theorem E5(sz:Nat)(ho:o.op=.slice T x (some y) (some a7) none)(i:look fr x=some (.slice a n c))(j:look fr y=some (.int u q))(k:look fr a7=some (.int yk hi))
  (d:cut xs q hi=some g) (f:xs.length<=c) (l:P.underlying T=some (.slice e)) (m:ax P (sizeOf e)=some sz):∀b w,Rep N fr b->(execOp b.eval o).run P w=.ok (.value (.slice (shd a c q.toNat sz) g.length (c-q.toNat))) w:=by
 intro b w h;have p:=h.look i;have r:=h.look j;have s:=h.look k;obtain ⟨t,v,D,_⟩:=bA d;have hl:=kK d;have z:0<=hi/\hi<=(c:Int):=⟨by omega,by omega⟩
 have A:0<=q/\q<=hi:=⟨t,v⟩
 have B:(hi.toNat:Int)=hi:=by omega
 have C:hi.toNat-q.toNat=g.length:=by omega
 simp [execOp,ho,Instr.sliceAt,Instr.slice,Instr.sliceBounds,Instr.sliceBound,run_underlying l,p,r,s,asIntOf,z,A,B,qV m,C,shd]
theorem Rd.cap(h:Rd w S (.slice a n c) p sz xs):xs.length<=c:=by
 obtain ⟨_,d,e,f,b,_⟩:=h
 grind
def lO(T:TypeId)(R:Rp α)(b:0<R.sz):Rp (List α) where
 sz:=1
 own w c S xs:=∃v,c=[v]/\∃css Ss,wI w T R v S xs none css Ss
 rd w F xs c:=∃v,c=[v]/\RdN w F v R.rd R.sz xs
 len:=by rintro w c S x ⟨v,rfl,_⟩;rfl
 loc:=by rintro w w' c S x h ⟨v,rfl,css,Ss,a⟩;exact ⟨v,rfl,css,Ss,a.loc h⟩
 lt:=by rintro w c S x ⟨v,rfl,css,Ss,a⟩;exact a.lt
 nd:=by rintro w c S x ⟨v,rfl,css,Ss,a⟩;exact a.nd
 see:=by rintro w c S x F ⟨v,rfl,css,Ss,a⟩ d;exact ⟨v,rfl,a.see d⟩
 rlen:=by rintro w F x c ⟨v,rfl,_⟩;rfl
 Vk:=by rintro w w' F F' x c e f ⟨v,rfl,h⟩;exact ⟨v,rfl,h.far b e f⟩
def vu(T:TypeId)(R:Rp α):Rp α where
 sz:=1
 own w d S x:=∃b a S',d=[.pointer (some ⟨b,0,none⟩)]/\S=b::S'/\b∉S'/\w.heap[b]? =some (.cells a.toArray T (0,0))/\R.own w a S' x
 rd w F x d:=∃b a,d=[.pointer (some ⟨b,0,none⟩)]/\b∉F/\w.heap[b]? =some (.cells a.toArray T (0,0))/\R.rd w F x a
 len:=by rintro w d S x ⟨b,a,S',rfl,_⟩;rfl
 loc:=by
  rintro w w' d S x h ⟨b,a,S',rfl,rfl,g,e,f⟩;exact ⟨b,a,S',rfl,rfl,g,by rw [h b zcs];exact e,R.loc w w' _ _ _ (λc hc=>h c (zcm _ hc)) f⟩
 lt:=by
  rintro w d S x ⟨b,a,S',rfl,rfl,g,e,f⟩ c hc;rcases j5.1 hc with rfl|hc
  ·exact (t7.1 e).1
  ·exact R.lt _ _ _ _ f c hc
 nd:=by
  rintro w d S x ⟨b,a,S',rfl,rfl,g,e,f⟩;exact q7.2 ⟨g,R.nd _ _ _ _ f⟩
 see:=by
  rintro w d S x F ⟨b,a,S',rfl,rfl,g,e,f⟩ j;exact ⟨b,a,rfl,j b zcs,e,R.see _ _ _ _ F f (λc hc=>j c (zcm _ hc))⟩
 rlen:=by rintro w F x d ⟨b,a,rfl,_⟩;rfl
 Vk:=by
  rintro w w' F F' x d k l ⟨b,a,rfl,g,e,f⟩;have i:=(t7.1 e).1;refine ⟨b,a,rfl,λn=> ?_,by rw [k b i g];exact e,R.Vk w w' F F' x a k l f⟩
  rcases l b n with m|m
  ·exact g m
  ·omega
def BL{α:Type}(T:TypeId)(R:Rp α):Rp (Option α) where
 sz:=1
 own w c S x:=match x with
  |none=>c=[.pointer none]/\S=[]
  |some y=>(vu T R).own w c S y
 rd w F x c:=match x with
  |none=>c=[.pointer none]
  |some y=>(vu T R).rd w F y c
 len:=by
  rintro w c S (_|x) h
  ·rw [h.1];rfl
  ·exact (vu T R).len w c S x h
 loc:=by
  rintro w w' c S (_|x) hb h
  ·exact h
  ·exact (vu T R).loc w w' c S x hb h
 lt:=by
  rintro w c S (_|x) h
  ·rw [h.2];simp
  ·exact (vu T R).lt w c S x h
 nd:=by
  rintro w c S (_|x) h
  ·rw [h.2];exact o5
  ·exact (vu T R).nd w c S x h
 see:=by
  rintro w c S (_|x) F h hF
  ·exact h.1
  ·exact (vu T R).see w c S x F h hF
 rlen:=by
  rintro w F (_|x) c h
  ·rw [show c=[.pointer none] from h];rfl
  ·exact (vu T R).rlen w F x c h
 Vk:=by
  rintro w w' F F' (_|x) c h1 h2 h
  ·exact h
  ·exact (vu T R).Vk w w' F F' x c h1 h2 h
def qv(f:α->List Value->List Value)(sz:Nat)(hl:∀x vs,(f x vs).length=sz)(g:α->β)(R:Rp β):Rp α where
 sz:=sz
 own w c S x:=∃vs,c=f x vs/\R.own w vs S (g x)
 rd w F x c:=∃vs,c=f x vs/\R.rd w F (g x) vs
 len:=by rintro w c S x ⟨vs,rfl,_⟩;exact hl x vs
 loc:=by rintro w w' c S x a ⟨vs,rfl,h⟩;exact ⟨vs,rfl,R.loc w w' _ _ _ a h⟩
 lt:=by rintro w c S x ⟨vs,rfl,h⟩;exact R.lt _ _ _ _ h
 nd:=by rintro w c S x ⟨vs,rfl,h⟩;exact R.nd _ _ _ _ h
 see:=by rintro w c S x F ⟨vs,rfl,h⟩ b;exact ⟨vs,rfl,R.see _ _ _ _ F h b⟩
 rlen:=by rintro w F x c ⟨vs,rfl,_⟩;exact hl x vs
 Vk:=by rintro w w' F F' x c d e ⟨vs,rfl,h⟩;exact ⟨vs,rfl,R.Vk w w' F F' _ _ d e h⟩
theorem Rd.isnil(h:Rd w S (.slice a n c) p sz xs)(d:∀x,∃u,(p x)[0]? =some u)(i:a.isNone=true):xs=[]:=by
 cases xs with
 |nil=>rfl
 |cons x r=>
  obtain ⟨_,j,k,l,_,f⟩:=h;obtain ⟨u,g⟩:=d x;obtain ⟨b,o,e,_⟩:=f 0 x 0 u rfl g
  grind
theorem ko{α:Type}{R:Rp α}{x:α}(h:(vu T R).own w a4 S x):eU a4=true:=by
 obtain ⟨b,c,S',rfl,_⟩:=h;rfl
theorem Gu{b:∀xs,(p xs).length=sz}{c:0<sz}(h:(nF T p sz b c).own w a4 S xs):eU a4=true:=by
 obtain ⟨v,rfl,rfl,d⟩:=h;rcases d.2 with ⟨_,a,rfl⟩|⟨g,o,cap,e,rfl,_⟩<;>rfl
theorem St.toIt(h:St s r w L)(j:Nat)(a:L[j]? =some (qb v T p sz g))(b:∀x,(p x).length=sz)(c:0<sz):
 St s r w (L.set j (itI (nF T p sz b c) [v] (cM v).toList g)):=h.turn j a ⟨v,rfl,rfl,h.all j _ a⟩ rfl
theorem St.toRow{b:∀x,(p x).length=sz}{c:0<sz}(h:St s r w L)(j:Nat)(a:L[j]? =some (itI (nF T p sz b c) a4 S g)):
  ∃v,a4=[v]/\St s r w (L.set j (qb v T p sz g)):=by
 obtain ⟨v,rfl,rfl,d⟩:=h.all j _ a;exact ⟨v,rfl,h.turn j a d rfl⟩
theorem St.seeN(h:St s r w L)(j:Nat)(a:L[j]? =some (nI T R v S xs none))(i:List Nat)(b:mem? j i=false):RdN w (fp (sel L i)) v R.rd R.sz xs:=by
 obtain ⟨css,Ss,c⟩:=h.all j _ a;exact c.see (h.noin j a i b)
theorem RdN.give(e:0<R.sz)(h:RdN s r v R.rd R.sz xs)(a:St s r w L)(i:List Nat):RdN w (fp (sel L i)) v R.rd R.sz xs:=by
 refine h.far e (λb f g=>a.chg.block b f g) (λb l=> ?_);obtain ⟨j,m,n,c⟩:=vG.1 l;obtain ⟨k,_,d⟩:=eS n;rcases xS d with d|rfl
 ·exact a.own k m d b c
 ·cases c
theorem St.nlen{L:List Item}(h:St s r w L)(j:Nat)(d:L[j]? =some (nI T R v S xs ho)):xs.length<=9223372036854775807/\∃a c,v=.slice a xs.length c:=by
 obtain ⟨css,Ss,e⟩:=h.all j _ d;rcases e.row.2 with ⟨l,a,rfl⟩|⟨g,o,cap,f,rfl,_,m,i,k,_,b⟩
 ·grind
 ·refine ⟨?_,_,_,rfl⟩;simp only [maxLen] at k;omega
theorem St.nrowv{L:List Item}(h:St s r w L)(j:Nat)(b:L[j]? =some (nI T R v S xs ho))(c:idx xs hi=some z):∃g sz cap,v=.slice (some ⟨g,sz,none⟩) xs.length cap:=by
 obtain ⟨css,Ss,d⟩:=h.all j _ b;obtain ⟨f,i,k⟩:=zX c;rcases d.row.2 with ⟨l,a,rfl⟩|⟨g,sz,cap,e,rfl,_⟩
 ·omega
 grind
theorem wI.cells{Ss:List (List Nat)}(b:wI w T R v S xs ho css Ss)(d:css[N]? =some a4)(hl:a4.length=R.sz)(e:v=.slice (some ⟨c,i,none⟩) n j):∀f u,a4[f]? =some u->w.cell? ⟨c,i+N*R.sz+f,none⟩=some u:=by
 intro f u k;have p:=(zes.1 d).1;have l:=b.lc;rcases b.row.2 with ⟨q,_⟩|⟨m,r,g,a,rfl,_,o,_,_,_,h⟩
 ·omega
 ·simp only [Value.slice.injEq,i6,Addr.mk.injEq,and_true] at e;obtain ⟨⟨rfl,rfl⟩,_,_⟩:=e;have:=nZ (λx=>du R.sz x) d (u:=u) (f:=f) (by rw [sZ hl];exact k)
  rw [<- h,List.getElem?_take] at this;split at this
  ·rw [cell_of_row w m _ a T (0,0) o,y9];rw [TG] at this
   simpa using this
  ·cases this
theorem St.nout(h:St s r w L)(j:Nat)(g:L[j]? =some (nI T R v S xs none))(l:idx xs hi=some z)(m:v=.slice (some ⟨N,i,none⟩) n c):
  ∃b e S2,b.length=R.sz/\(∀f u,b[f]? =some u->w.cell? ⟨N,i+hi.toNat*R.sz+f,none⟩=some u)/\St s r w (L.set j (nI T R v e xs (some (hi.toNat,b)))++[itI R b S2 z]):=by
 obtain ⟨css,Ss,k⟩:=h.all j _ g;obtain ⟨b,e,S2,o,hl,a,d,p,q,t⟩:=k.take (zX l).2.2;exact ⟨b,e,S2,hl,k.cells o hl m,h.swap j g ⟨css,_,d⟩ d.nd q a (R.nd _ _ _ _ a) p t⟩
theorem St.fptr{L:List Item}{u:Value}{x:α}(h:St s r w L)(j:Nat)(a:L[j]? =some (itI (vu U R) [u] S x)):∃b,u=.pointer (some ⟨b,0,none⟩):=by
 obtain ⟨b,c,S',d,_⟩:=h.all j _ a
 grind
theorem St.optSome(h:St s r w L)(j:Nat)(a:L[j]? =some (itI (BL U R) [v] S a8))(b:a8=some z):St s r w (L.set j (itI (vu U R) [v] S z)):=by
 subst b;exact h.turn j a (h.all j _ a) rfl
theorem St.nhole{L:List Item}(h:St s r w L)(j:Nat)(b:L[j]? =some (nI T R v S xs (some (hi.toNat,a4))))(d:v=.slice (some ⟨N,i,none⟩) n c):∀f u,a4[f]? =some u->w.cell? ⟨N,i+hi.toNat*R.sz+f,none⟩=some u:=by
 obtain ⟨css,Ss,a⟩:=h.all j _ b;obtain ⟨e,g,_⟩:=a.out _ _ rfl;exact a.cells g e d
theorem St.nback(h:St s r w L)(k j:Nat)(d:Nat.beq k j=false){t:Int}{cs:List Value}{x y:α}(m:L[k]? =some (nI T R v S xs (some (t.toNat,cs))))(n:L[j]? =some (itI R cs S2 y))(o:idx xs t=some x):
  ∃S',St s r w ((L.set k (nI T R v S' (xs.set t.toNat y) none)).set j nilI):=by
 obtain ⟨css,Ss,f⟩:=h.all k _ m;obtain ⟨_,q,u⟩:=f.out _ _ rfl
 have g:css.set t.toNat cs=css:=by
  apply o4
  grind
 have p:∀b∈S,b∉S2:=h.apart k j _ _ (r7 d) m n;have l:R.own w cs S2 y:=h.all j _ n;have:=f.give (w':=w) (x:=y) (λi c e=>by grind) (zX o).2.2 l p (λ_ _=>rfl) (by rw [g];exact f.row)
 refine ⟨_,h.fuse k j d m n ⟨_,_,this⟩ this.nd (λb a=> ?_)⟩;rcases f8.1 a with a|a
 ·exact .inl (by show b∈S;rw [f.hS];exact zal _ a)
 ·rcases jX a with a|a
  ·exact .inr a
  ·exact .inl (by show b∈S;rw [f.hS];exact zar _ a)
theorem St.nback0(h:St s r w L)(k j:Nat)(a:Nat.beq k j=false){t:Int}{cs:List Value}{x:α}(c:L[k]? =some (nI T R v S xs (some (t.toNat,cs))))(d:L[j]? =some (itI R cs S2 x))(b:idx xs t=some x):
  ∃S',St s r w ((L.set k (nI T R v S' xs none)).set j nilI):=by
 have:=h.nback k j a c d b
 rwa [kb b] at this
theorem St.nNil{α:Type}(h:St s r w L)(T:TypeId)(R:Rp α)(a:Option Addr):St s r w (L++[nI T R (.slice a 0 0) [] [] none]):=
 h.push (x8 _ _) ⟨[],[],⟨by grind [jO,dw.nil],rfl,rfl,by simp [eT],o5,(λ_ _ e=>by cases e),λi f S x _ c=>by simp at c⟩⟩ (λb d=>by simp [nI] at d) o5
theorem St.nNew(h:St s r w L)(j:Nat)(R:Rp α)(d:sz=R.sz){cs:List Value}(a:L[j]? =some (qb v T (fit sz) sz (List.replicate n cs)))(x:α)(g:∀w,R.own w cs [] x):St s r w (L.set j (nI T R v (cM v).toList (List.replicate n x) none)):=by
 subst d
 have e:(List.replicate n ([]:List Nat)).flatten=[]:=by
  clear a
  induction n with
  |zero=>rfl
  |succ n f=>simp [List.replicate_succ,f]
 have b:=h.all j _ a;refine h.turn j a ⟨List.replicate n cs,List.replicate n [],⟨by grind [qb],by simp,by simp,by grind,db,(λ_ _ e=>by cases e),λi c S' z _ k l m=> ?_⟩⟩ rfl
 grind
theorem dw.write(y:dw w T sz v xs.length (jO p xs))(j:∀x,(p x).length=sz){cap:Nat}(A:v=.slice (some ⟨N,i,none⟩) n cap){q:Nat}(l:xs[q]? =some z){k:Nat}(B:k=i+q*sz+f)
  (C:f+vs.length<=sz) (d:qG (p z) vs f=p z'):∃c,w.heap[N]? =some (.cells c T (0,0))/\k+vs.length<=c.size/\cM v=some N/\dw (w.setRow N (qG c.toList vs k).toArray) T sz v xs.length (jO p (xs.set q z')):=by
 subst A;have e:=(zes.1 l).1;rcases y.2 with ⟨G,_⟩|⟨I,J,m,c,o,r,a,b,D,E,g⟩
 ·omega
 ·simp only [Value.slice.injEq,i6,Addr.mk.injEq,and_true] at o;obtain ⟨⟨rfl,rfl⟩,rfl,rfl⟩:=o;have F:q*sz+sz<=xs.length*sz:=by rw [<- Tw];exact r6 _ e
  have s:xs.length*sz<=cap*sz:=r6 _ b;have h:k+vs.length<=c.size:=by rw [B];omega
  have t:(qG c.toList vs k).length=c.size:=by simp [qG] at h |-;omega
  refine ⟨c,a,h,xJ r,⟨by rw [qO j,j8],.inr ⟨N,i,cap,_,by simp,r,setRow_heap w N c _ T _ a,by simpa using b,D,by grind,?_⟩⟩⟩;have u:=Bt j (f:=f) (vs:=vs) l C d
  grind [dc]
theorem OW.stN(B:St s r w L)(k j:Nat)(D:Nat.beq k j=false){cap:Nat}{cs:List Value}{z u:α}
  (Z:L[k]? =some (nI T R v2 S xs ho)) (hho:∀i c,ho=some (i,c)->i=q.toNat) (hj:L[j]? =some (itI R cs S2 u)) (hv:v2=.slice (some ⟨d,a9,none⟩) n cap)
  (hl:vg l i=some ⟨none,.store t2 x y,ty,O,V,gdd⟩) (hg:gd l fr ⟨none,.store t2 x y,ty,O,V,gdd⟩=some true)
  (hz:Sx.idx xs q=some z) (hx:look fr x=some (.pointer (some ⟨d,b0,none⟩))) (ha:b0=a9+q.toNat*R.sz) (hy:look fr y=some v) (hc:v.cells.toList=cs)
  (hs:ax P (sizeOf t2)=some v.cells.toList.length) (h1:eU v.cells.toList=true)
  (h:∀S' w',St s r w' ((L.set k (nI T R v2 S' (xs.set q.toNat u) none)).set j nilI)->OW P l N Q (i+1) fr w'):OW P l N Q i fr w:=by
 obtain ⟨css,Ss,p⟩:=B.all k _ Z;have o:R.own w cs S2 u:=B.all j _ hj;have K:=R.len _ _ _ _ o;obtain ⟨h0,hq,hq2⟩:=zX hz;have F:∀b∈S,b∉S2:=B.apart k j _ _ (r7 D) Z hj;have a1:q.toNat<css.length:=by rw [p.lc];omega
 have M:dw w T R.sz v2 css.length (jO (fit R.sz) css):=by rw [p.lc];exact p.row
 obtain ⟨E,hgc,U,I,W⟩:=dw.write M (λx=>du _ x) hv (q:=q.toNat) (z:=css[q.toNat]) (z':=cs) (zeg a1) (f:=0) (k:=b0) (vs:=cs) (by omega) (by omega) (HA K);subst hc;refine OW.ops hl hg rfl (w':=w.setRow d (qG E.toList v.cells.toList b0).toArray) (λb a=> ?_) (h ((cM v2).toList++(Ss.set q.toNat S2).flatten) _ ?_)
 ·have e1:=a.look hx;have e2:=a.look hy;have:=sj (P:=P) (w:=w) (T:=T) (g:=d) hs h1 hgc U;simp [execOp,e1,e2,this]
 ·have t:Chg [d] w (w.setRow d (qG E.toList v.cells.toList b0).toArray):=⟨rfl,rfl,rfl,by simp [World.setRow],λq _ hn=>setRow_other w d q _ (by rintro rfl;exact hn (by simp))⟩
  have hgS:d∈S:=by rw [p.hS];exact zal _ (by simp [I])
  have hn:=p.nd;rw [p.hS] at hn;have hn3:=(k6.1 hn).2.2;have X:=p.lt;have J:R.own (w.setRow d (qG E.toList v.cells.toList b0).toArray) v.cells.toList S2 u:=R.loc _ _ _ _ _ (λb a=>t.block b (R.lt _ _ _ _ o b a) (by simp only [g8];rintro rfl;exact F _ hgS a)) o
  have m:=p.give (w':=w.setRow d (qG E.toList v.cells.toList b0).toArray) (x:=u) hho hq2 J F (λb a=>t.block b (X b (by rw [p.hS];exact zar _ a)) (by simp only [g8];rintro rfl;exact hn3 b (by simp [I]) b a rfl)) (by rw [<- p.lc];exact W)
  have hold:Item:=nilI
  have G:∀b∈(cM v2).toList++(Ss.set q.toNat S2).flatten,b∈S\/b∈S2:=λb a=>by
   rcases f8.1 a with a|a
   ·exact .inl (by rw [p.hS];exact zal _ a)
   ·rcases jX a with a|a
    ·exact .inr a
    ·exact .inl (by rw [p.hS];exact zar _ a)
  let A:Item:=⟨(cM v2).toList++(Ss.set q.toNat S2).flatten,λw1=>∀b∈(cM v2).toList++(Ss.set q.toNat S2).flatten,b<w1.heap.size,λw1 w2 a hh b Y=>by
   have h1:=hh b Y;have h2:=a b Y;rw [TN h1] at h2;exact (t7.1 h2).1,λw1 hh=>hh⟩
  have hA:St s r w ((L.set k A).set j nilI):=B.fuse k j D Z hj (C:=A) (λb a=>by
   rcases G b a with a|a
   ·exact X b a
   ·exact R.lt _ _ _ _ o b a) m.nd G
  have hlk:k<L.length:=(zes.1 Z).1
  have hkA:((L.set k A).set j nilI)[k]? =some A:=by
   rw [TE (λe=>r7 D e.symm),yy hlk]
  have:=hA.upd k hkA (it':=nI T R v2 ((cM v2).toList++(Ss.set q.toNat S2).flatten) (xs.set q.toNat u) none) (t.mono (λb a=>by simp only [g8] at a;subst a;exact zal _ (by simp [I]))) ⟨_,_,m⟩ (λb a=>.inl a) m.nd
  rw [List.set_comm _ _ (λe=>r7 D e.symm),Tt] at this;exact this
theorem OW.appN(I:St s r w L)(k j:Nat)(K:Nat.beq k j=false)
  (hk:L[k]? =some (nI b0 R v S xs none)) (hj:L[j]? =some (nI b0 R v2 S2 g none))
  (hl:vg l i=some ⟨some d,.call ⟨.builtin .append,[x,y].toArray,done.toArray⟩,ty,O,V,gdd⟩) (M:done=[a9,a9]) (hg:gd l fr ⟨some d,.call ⟨.builtin .append,[x,y].toArray,done.toArray⟩,ty,O,V,gdd⟩=some true)
  (hN:Nat.blt d N=true) (hx:look fr x=some v) (hy:look fr y=some v2) (ht:P.underlying a9=some (.slice b0)) (E:tq P b0 R.sz b2) (e:(xs.length+g.length)*b2<=140737488355328) (hone:∀w cs S x,R.own w cs S x->eU cs=true)
  (h:∀v' S' w',St s r w' ((L.set k (nI b0 R v' S' (xs++g) none)).set j nilI)->OW P l N Q (i+1) ((d,v')::fr) w'):OW P l N Q i fr w:=by
 subst M;obtain ⟨css,Ss,D⟩:=I.all k _ hk;obtain ⟨t,Ss2,o⟩:=I.all j _ hj;have G:∀b∈S,b∉S2:=I.apart k j _ _ (r7 K) hk hj;obtain ⟨inf,z,hi,hz,hsz,hby,hzs⟩:=E.Ws
 have exec:∀{v':Value} {w':World},(Builtin.append_ #[a9,a9] ty #[v,v2]).run P w=.ok v' w'->∀a,Rep N fr a->
   (execOp a.eval ⟨some d,.call ⟨.builtin .append,[x,y].toArray,[a9,a9].toArray⟩,ty,O,V,gdd⟩).run P w=.ok (.value v') w':=by
  intro v' w' D a M;have e1:=M.look hx;have e2:=M.look hy;simp [execOp,resolve,invoke,builtin,e1,e2,D]
 have hlk:k<L.length:=(zes.1 hk).1
 have key:∀{v':Value} {w':World},(Builtin.append_ #[a9,a9] ty #[v,v2]).run P w=.ok v' w'->w.grownBy w' (cM v)->(cM v'=cM v\/cM v'=some w.heap.size)->dw w' b0 R.sz v' (xs.length+g.length) (jO (fit R.sz) css++jO (fit R.sz) t)->OW P l N Q i fr w:=by
  intro v' w' J Z B p;have hn:=D.nd;rw [D.hS] at hn;have hn3:=(k6.1 hn).2.2;have T:Chg (cM v).toList w w':=Chg.grown Z (λb e=>by simp [e])
  have U:=D.app (w':=w') o G (λb e=>T.block b (by
   rcases f8.1 e with e|e
   ·exact D.lt b (by rw [D.hS];exact zar _ e)
   ·exact o.lt b (by rw [o.hS];exact zar _ e)) (λhv=>by
   rcases f8.1 e with e|e
   ·exact hn3 b hv b e rfl
   ·exact G b (by rw [D.hS];exact zal _ hv) (by rw [o.hS];exact zar _ e))) B p
  refine j6 hl hg rfl hN (exec J) (h v' ((cM v').toList++(Ss++Ss2).flatten) w' ?_)
  have W:∀b∈(cM v).toList++(Ss++Ss2).flatten,b∈S\/b∈S2:=λb e=>by
   rw [yx] at e;rcases f8.1 e with e|e
   ·exact .inl (by rw [D.hS];exact zal _ e)
   ·rcases f8.1 e with e|e
    ·exact .inl (by rw [D.hS];exact zar _ e)
    ·exact .inr (by rw [o.hS];exact zar _ e)
  have hnd:((cM v).toList++(Ss++Ss2).flatten).Nodup:=by
   have hn2:=o.nd;rw [o.hS] at hn2;have m:=k6.1 hn2;have n:=k6.1 hn;rw [yx];refine k6.2 ⟨n.1,k6.2 ⟨n.2.1,m.2.1,λa M b e b0=>by subst b0;exact G a (by rw [D.hS];exact zar _ M) (by rw [o.hS];exact zar _ e)⟩,λa M b e b0=> ?_⟩
   subst b0;rcases f8.1 e with e|e
   ·exact hn3 a M a e rfl
   ·exact G a (by rw [D.hS];exact zal _ M) (by rw [o.hS];exact zar _ e)
  let A:Item:=⟨(cM v).toList++(Ss++Ss2).flatten,λw1=>∀b∈(cM v).toList++(Ss++Ss2).flatten,b<w1.heap.size,λw1 w2 e hh b hb2=>by
   have h1:=hh b hb2;have h2:=e b hb2;rw [TN h1] at h2;exact (t7.1 h2).1,λw1 hh=>hh⟩
  have hA:St s r w ((L.set k A).set j nilI):=I.fuse k j K hk hj (C:=A) (λb e=>by
   rcases W b e with e|e
   ·exact D.lt b e
   ·exact o.lt b e) hnd W
  have hkA:((L.set k A).set j nilI)[k]? =some A:=by
   rw [TE (λb0=>r7 K b0.symm),yy hlk]
  have:=hA.upd k hkA (it':=nI b0 R v' ((cM v').toList++(Ss++Ss2).flatten) (xs++g) none) (T.mono (λb e=>zal _ e)) ⟨_,_,U⟩ (λb e=>by
   rcases f8.1 e with e|e
   ·rcases B with B|B
    ·exact .inl (zal _ (by rw [<- B];exact e))
    ·rw [B] at e;simp at e;exact .inr (by omega)
   ·exact .inl (zar _ e)) U.nd
  rw [List.set_comm _ _ (λb0=>r7 K b0.symm),Tt] at this;exact this
 have hlim:=(I.nlen k hk).1
 have hrow2:Rd w [] v2 (fit R.sz) R.sz t:=by
  have X:=o.row;rw [<- o.lc] at X;exact lM (λx=>du _ x) X (by simp)
 obtain ⟨hn2,a2,c2,hv2,_,hc2⟩:=hrow2;have Y:=o.lc;rcases y8 g.length with h0|h0
 ·have hys:g=[]:=y6 h0;have hcs:t=[]:=y6 (by omega);refine key (v':=v) (w':=w) ?_ ⟨rfl,rfl,rfl,k9 _,λ_ _ _=>rfl⟩ (.inl rfl) ?_
  ·rw [hv2,hcs];exact iJ ht E.size D.row a2 c2
  ·rw [hcs,hys]
   simpa [jO] using D.row
 ·obtain ⟨c0,hc0⟩:∃c0,t[0]? =some c0:=⟨t[0]'(by omega),zeg (by omega)⟩
  obtain ⟨u0,hu0⟩:∃u0,(fit R.sz c0)[0]? =some u0:=⟨(fit R.sz c0)[0]'(by rw [du];exact E.pos),zeg (by rw [du];exact E.pos)⟩
  obtain ⟨b,q,rfl,_,_⟩:=hc2 0 c0 0 u0 hc0 hu0
  have F:∀q' u,(jO (fit R.sz) t)[q']? =some u->w.cell? ((⟨b,q,none⟩:Addr).add q')=some u:=by
   intro q' u hu;rw [dR];obtain ⟨a9,f,x,hx,hf,hq⟩:=gZ (λx=>du R.sz x) E.pos hu;obtain ⟨b',k',hb',_,F⟩:=hc2 a9 x f u hx hf;simp only [i6,Addr.mk.injEq,and_true] at hb';obtain ⟨rfl,rfl⟩:=hb';rw [hq,<- y9];exact F
  have hones:∀u∈jO (fit R.sz) t,u.oneCell'=true:=by
   intro u hu;obtain ⟨q',hq',rfl⟩:=w6.1 hu;obtain ⟨a9,f,c,hx,hf,_⟩:=gZ (λx=>du R.sz x) E.pos (zeg hq');have ht:=(zes.1 hx).1;have l1:a9<Ss2.length:=by rw [o.ls];omega
   have l2:a9<g.length:=by omega
   have p:=o.own a9 c Ss2[a9] g[a9] (by simp) hx (zeg l1) (zeg l2);rw [sZ (R.len _ _ _ _ p)] at hf;exact eV (hone _ _ _ _ p) _ (zmg hf)
  obtain ⟨v',w',J,p,Z,B⟩:=Ki (P:=P) w a9 ty b0 inf z R.sz b2 ht hi hz hsz hby hzs v xs.length (jO (fit R.sz) css) D.row ⟨b,q,none⟩ g.length c2 h0 (jO (fit R.sz) t) (by rw [qO (λx=>du R.sz x),Y]) F hones
   (by have:=TR (xs.length+g.length) E.Wy;simp only [maxLen];omega) e
  refine key ?_ Z B p;rw [hv2,Y];exact J
end Go.Sx
