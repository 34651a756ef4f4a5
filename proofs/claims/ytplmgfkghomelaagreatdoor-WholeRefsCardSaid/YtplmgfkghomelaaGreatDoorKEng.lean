/- Lemmas. -/
import Derived.Test.YtplmgfkghomelaaGreatDoorKSem
import Derived.Test.YtplmgfkghomelaaGreatDoorO1
set_option linter.all false
namespace Go.Proofs.YtplmgfkghomelaaGreatDoor
open Go.Sx
variable {g:Type}{M W H n q n':Nat}{r:zb}{i:zf}{m:zE}{j:zj}{b:List zf}{e x v steps state h:Int}{back k:Nat->Int}{a d:EM}{c:qP}{S:zm}{f:zk}{l:List Int}{o:Option zj}{E:qr}{y:zz}{z:List (Int×g)}{A:g}{B:Int×g}{C:zE×Int}{D:zC}{G:Int×Int×zb}
theorem Oq(g:wj b)(h:Way b M q)(p:M<q):∀a,qW b q a=true->qW b M a=true\/∃i,b[a]? =some i/\(q:Int)=a-i.D:=by
 intro a j;obtain ⟨c,d,k,u,v,w,x,r,y⟩:=kg g j;by_cases l:qW b M a=true
 ·exact .inl l
 ·right
  refine ⟨c,d,?_⟩;have e:qW b M a=false:=by simpa using l
  obtain ⟨i,m,s⟩:=h;rcases s with ⟨n,o⟩|⟨n,o,f⟩
  ·rcases Int.lt_or_le ((a:Int)-c.D) q with f|f
   ·exfalso
    have:=(xD d k).2 (show (a:Int)-c.D<=M/\M<=a by omega)
    grind
   ·omega
  ·rcases Int.lt_or_le ((a:Int)-c.D) q with t|t
   ·exfalso
    exact g.en M (zes.1 m).1 ⟨i,m,n,o,a,c,q,r,d,k,f,j,e,by omega⟩
   ·omega
theorem IX(g:wj b)(d:Fit b back)(e:M<b.length)(h:Way b M q)(c:M<q)(s:∀a,a≠M->k a=back a)(f:∀i,b[M]? =some i->i.Op=20->q=M+1)(j:∀i,b[M]? =some i->i.Op≠20->k M=back M):
  pot b k q b.length+1<=pot b back M b.length:=by
 refine F8 e (λt l=>OZ g d c (Oq g h c) (λa m=> ?_) l);obtain ⟨n,o,p,u,v,w,x,y,z⟩:=kg g m;have r:=d a n o p
 grind
structure Run (m:zE) (j:zj) (M:EM) (p:Nat):Prop where
 VY:M.module=m
 Uw:M.Uw=p
 lt:p<m.Code.length
 known:At j p M.regs
 u:uN M.regs
 fit:Fit m.Code M.LT
 Uu:∀i,u64 (M.UP.UU.Uu i)
 ev:u64 M.Uv.A/\u64 M.Uv.B
structure Cd (m:zE) (j:zj):Prop where
 VA:wj m.Code
 goodM:pg m.Maps
 up:Hc m m.Code.length j
 snd:Snd m m.Code.length j
theorem Ay(h:i.B=8\/(0<=i.B/\i.B<8)):iE a i=some (EU i a.regs):=by
 grind [iE,EU,Ha]
theorem Ot(h:∀i,u64 (c.Uu i))(t:Int):OK (xP c t) (λr=>u64 r.1):=by
 unfold xP;refine d5 (λ_=>b9 ⟨by simp,by simp⟩) (λa=> ?_)
 grind [ain,b9]
theorem Ly(h:∀i,u64 (c.Uu i))(t:Int)(a:u64 v):OK (xz c t v) (λr=>∀i,u64 (r.2.Uu i)):=by
 unfold xz;refine d5 (λ_=>b9 h) (λb=> ?_)
 grind [ain,b9,u64,aset]
theorem Ou(C:jp)(t:Int):OK (xc C t) (λr=>u64 r.1):=by
 unfold xc;refine d5 (λ_=>b9 ⟨by simp,by simp⟩) (λh=> ?_)
 grind [ain,b9,u64,aset,xh]
structure Ran (m:zE) (i:zf) (p:Nat) (M:EM) (r:Int×EM):Prop where
 VY:r.2.module=M.module
 st:r.2.state=M.state
 ev:r.2.Uv=M.Uv
 Uu:∀i,u64 (r.2.UP.UU.Uu i)
 step:∃q:Nat,w64 (M.Uw+r.1)=q/\Stp i p M.regs q r.2.regs/\(i.Op≠20->r.2.LT=M.LT/\p<q)/\
  (i.Op=20->(q=p+1/\r.2.LT=aset M.LT p 0)\/((q:Int)=p-i.D/\M.LT p<i.UN/\r.2.LT=aset M.LT p (M.LT p+1)))
theorem QO(Q:Cd m j)(h:Run m j a W)(l:m.Code[W]? =some i)(T:i.Op≠21)(U:i.Op≠22):OK (CG a i) (Ran m i W a):=by
 have n:=Q.VA;have hn:=n.Wq;have c:=n.Vd.right l;have V:=nW c;have N:=pe c;have hp:=h.lt;have X:=h.Uw;have one:w64 (a.Uw+1)=((W+1:Nat):Int):=by grind [qq]
 have g:ain 8 i.A=some i.A.toNat:=Ha N.1 N.2;have p:¬ (15<=i.Op/\i.Op<=20)->ain 8 i.D=some i.D.toNat:=λh=>Ha (oZ c h).1 (oZ c h).2
 have plain:∀{R:Nat->Int} {S:zm},i.Op≠20->(∀t,u64 (S.UU.Uu t))->Stp i W a.regs (W+1) R->Ran m i W a (1,{a with UP:=S,regs:=R}):=
  λd Y Z=>⟨rfl,rfl,rfl,Y,W+1,one,Z,λ_=>⟨rfl,by omega⟩,λe=>absurd e d⟩
 unfold CG;refine d5 (λe=> ?_) (λe0=> ?_)
 ·have e:i.Op=0:=by simpa using e
  rw [Ay (bE c (.inl (by omega))),p (by omega)];exact b9 (plain (by omega) h.Uu (.set e))
 refine d5 (λe=> ?_) (λw=> ?_)
 ·have e:i.Op=11:=by simpa using e
  rw [Ay (bE c (.inl (by omega)))];simp only [zbs];refine d6 (Ot h.Uu _) (λv y=> ?_);rw [p (by omega)];exact b9 (plain (by omega) h.Uu (.any v.1 (.inl e) y))
 refine d5 (λe=> ?_) (λz=> ?_)
 ·have e:i.Op=12:=by simpa using e
  rw [g,Ay (bE c (.inl (by omega)))];simp only [zbs];exact d6 (Ly h.Uu _ (h.u _ (by omega))) (λv y=>b9 (plain (by omega) y (.store e)))
 refine d5 (λe=> ?_) (λC=> ?_)
 ·have e:i.Op=13:=by simpa using e
  rw [p (by omega)];simp only [zbs];refine d5 (λ_=>b9 ?_) (λ_=>b9 (plain (by omega) h.Uu (.any _ (.inr e) h.ev.1)))
  have:aset (aset a.regs i.D.toNat a.Uv.A) i.D.toNat a.Uv.B=aset a.regs i.D.toNat a.Uv.B:=by
   grind [aset]
  rw [this];exact plain (by omega) h.Uu (.any _ (.inr e) h.ev.2)
 refine d5 (λe=> ?_) (λE=> ?_)
 ·have e:i.Op=14:=by simpa using e
  have F:=pf c e;rw [p (by omega),vf (x:=i.UN) F.1 (by omega)];exact b9 (plain (by omega) h.Uu (.map e))
 refine d5 (λe=> ?_) (λG=> ?_)
 ·have e:i.Op=15:=by simpa using e
  have hl:(jv i).2.1=true:=by grind [cH]
  have b:=n.Vd.leads l hl;rw [cH c (by omega) (by omega)] at b;simp only at b;have hJ:=sV (i:=i) (by grind [eO,inB]);obtain ⟨q,hq⟩:=zof b.1;refine b9 ⟨rfl,rfl,rfl,h.Uu,q,?_,.jump q e (by omega),λ_=>⟨rfl,by omega⟩,λO=>by omega⟩
  grind [w64,qq]
 refine d5 (λe=> ?_) (λI=> ?_)
 ·have e:i.Op=20:=by simpa using e
  have hlp:=n.Vd.loop l e;have P:=h.fit W i l e;have r:ain 64 a.Uw=some W:=by grind [Q7]
  rw [g,r];simp only [zbs];refine d6 (R:=λo=>o=true->a.LT W<i.UN) (d5 (λ_=>b9 (λh=>yq h)) (λ_=>b9 (λh=>by cases h))) (λo k=> ?_);refine d5 (λJ=>b9 ?_) (λ_=>b9 ?_)
  ·have K:=k J;refine ⟨rfl,rfl,rfl,h.Uu,((W:Int)-i.D).toNat,?_,.back _ e (by omega),λd=>absurd e d,λ_=>.inr ⟨by omega,K,?_⟩⟩
   ·grind [w64,qq]
   grind [aset,w64,qq]
  ·exact ⟨rfl,rfl,rfl,h.Uu,W+1,one,.on e,λd=>absurd e d,λ_=>.inl ⟨rfl,rfl⟩⟩
 simp only [beq_eq_false_iff_ne,ne_eq] at e0 w z C E G I;have s:i.B=8\/(0<=i.B/\i.B<8):=bE c (by omega);have L:=Be h.u s;have M:=h.u i.A.toNat (by omega);rw [g,Ay s];simp only [zbs];rw [Bb M L];simp only [zbs];refine d5 (λk=> ?_) (λk=> ?_)
 ·simp at k;rw [p (by omega)];exact b9 (plain (by omega) h.Uu (.arith k.1 k.2))
 ·have f:16<=i.Op/\i.Op<=19:=by
   rw [Bool.and_eq_false_iff] at k
   grind
  rw [Ge];simp only [zbs];have hl:(jv i).2.1=true:=by grind [cH]
  have b:=n.Vd.leads l hl;rw [cH c (by omega) (by omega)] at b;simp only at b;have hJ:=sV (i:=i) (by grind [eO,inB]);obtain ⟨q,hq⟩:=zof b.1;refine d5 (λJ=>b9 ?_) (λhf=>b9 ?_)
  ·refine ⟨rfl,rfl,rfl,h.Uu,q,?_,.yes q f.1 f.2 J (by omega),λ_=>⟨rfl,by omega⟩,λO=>by omega⟩
   grind [w64,qq]
  ·exact ⟨rfl,rfl,rfl,h.Uu,W+1,one,.no f.1 f.2 hf,λ_=>⟨rfl,by omega⟩,λO=>by omega⟩
theorem Az{r:Nat->Int}(f:xg i=true)(g:b[M]? =some i)(h:Stp i M k q r)(d:i.Op=20->q=M+1):Way b M q:=by
 have on:(jv i).2.2=true->Way b M (M+1):=λh=>⟨i,g,.inl ⟨h,rfl⟩⟩
 have p:¬ (15<=i.Op/\i.Op<=20)->i.Op≠22->(jv i).2.2=true:=λl m=>by grind [Ac]
 have j:∀{q:Nat},15<=i.Op->i.Op<=19->(q:Int)=M+(i.D+1)->Way b M q:=λ{q}l m t=>by
  have:=sV (i:=i) (by grind [eO,inB]);exact ⟨i,g,.inr ⟨by grind [cH],by grind [cH],by grind [cH]⟩⟩
 cases h with
 |set e=>exact on (p (by omega) (by omega))
 |arith a c=>exact on (p (by omega) (by omega))
 |any v e n=>exact on (p (by omega) (by omega))
 |store e=>exact on (p (by omega) (by omega))
 |map e=>exact on (p (by omega) (by omega))
 |jump q a c=>exact j (by omega) (by omega) c
 |yes q a c o s=>exact j (by omega) (by omega) s
 |no a c o=>exact on (by grind [cH])
 |back q a c=>rw [d a];exact on (by rw [rr f a])
 |on e=>exact on (by rw [rr f e])
 |call v e n=>exact on (p (by omega) (by omega))
def QP(m:zE)(j:zj)(M a:EM)(p:Nat):Prop:=∃q,Run m j a q/\pot m.Code a.LT q m.Code.length+1<=pot m.Code M.LT p m.Code.length/\
 ∃i,m.Code[p]? =some i/\((jv i).2.1=true/\(q:Int)=p+(jv i).1\/(jv i).2.2=true/\(q:Int)=p+1)
theorem Way.to(h:Way b M q):∃i,b[M]? =some i/\((jv i).2.1=true/\(q:Int)=M+(jv i).1\/(jv i).2.2=true/\(q:Int)=M+1):=by
 obtain ⟨i,a,h|h⟩:=h
 ·grind
 grind
theorem FT(y:Cd m j)(h:Run m j d W)(k:m.Code[W]? =some i){r:Int×EM}(w:Ran m i W d r):
  QP m j d ⟨r.2.Uv,r.2.module,r.2.UP,r.2.regs,r.2.LT,w64 (d.Uw+r.1),steps,state⟩ W:=by
 have o:=y.VA;have g:=o.Vd.right k;obtain ⟨q,I,f,p,z⟩:=w.step;have s:=y.snd.step W i _ h.lt k h.known.1 h.known.2.choose_spec.1 d.regs q r.2.regs h.u h.known.2.choose_spec.2 f
 have B:q<m.Code.length:=by
  have:=(zes.1 s.1).1;rw [y.up.ji.VP] at this;exact this
 have base:Fit m.Code r.2.LT->Run m j ⟨r.2.Uv,r.2.module,r.2.UP,r.2.regs,r.2.LT,w64 (d.Uw+r.1),steps,state⟩ q:=
  λJ=>⟨by rw [<- h.VY];exact w.VY,I,B,s,f.u64s g h.u,J,w.Uu,by show u64 r.2.Uv.A/\_;rw [w.ev];exact h.ev⟩
 by_cases c:i.Op=20
 ·have K:=o.Vd.loop k c;have G:=h.fit W i k c;rcases z c with ⟨rfl,l⟩|⟨C,n,l⟩
  ·refine ⟨W+1,base ?_,?_,(Az g k f (λ_=>rfl)).to⟩
   ·intro a D v x;rw [l];unfold aset;split
    ·grind
    ·exact h.fit a D v x
   ·show pot m.Code r.2.LT _ _+1<=_;refine IX o h.fit h.lt (Az g k f (λ_=>rfl)) (by omega) (λa v=> ?_) (λ_ _ _=>rfl) (λL E p=> ?_)
    ·rw [l];unfold aset;rw [d8 v]
    grind
  ·refine ⟨q,base ?_,?_,i,k,.inl (by grind [rr])⟩
   ·intro a D v x;rw [l];unfold aset;split
    ·grind
    ·exact h.fit a D v x
   ·show pot m.Code r.2.LT _ _+1<=_;refine F8 h.lt (λt F=>L4 o h.fit k c C ?_ (λb M=> ?_) n F)
    ·rw [l];unfold aset;rw [d7 rfl]
    ·rw [l];unfold aset;rw [d8 M]
 ·obtain ⟨l,n⟩:=p c;refine ⟨q,base (by rw [l];exact h.fit),?_,(Az g k f (λe=>absurd e c)).to⟩
  show pot m.Code r.2.LT _ _+1<=_;refine IX o h.fit h.lt (Az g k f (λe=>absurd e c)) n (λa _=>by rw [l]) (λL E x=> ?_) (λ_ _ _=>by rw [l])
  grind
theorem IY:∀k:Fin 7,∃s,dq ((k:Nat):Int)=some (s,true)/\s.VL=decide ((k:Nat)<=4)/\0<=s.most/\(((k:Nat)=0\/(k:Nat)=4\/(k:Nat)=5)->s.most=18446744073709551615)/\(((k:Nat)=1\/(k:Nat)=2\/(k:Nat)=3)->s.most=1)/\((k:Nat)<=4->0<=s.asks/\s.asks<5):=by
 intro k;have h:∀k:Fin 7,((dq ((k:Nat):Int)).map (λr=>r.2&&(r.1.VL==decide ((k:Nat)<=4))&&decide (0<=r.1.most)&&(!(decide ((k:Nat)=0)||decide ((k:Nat)=4)||decide ((k:Nat)=5))||r.1.most==18446744073709551615)&&(!(decide ((k:Nat)=1)||decide ((k:Nat)=2)||decide ((k:Nat)=3))||r.1.most==1)&&(!decide ((k:Nat)<=4)||(decide (0<=r.1.asks)&&decide (r.1.asks<5)))))=some true:=by decide+kernel
 obtain ⟨⟨s,b⟩,a,c⟩:=yp.1 (h k)
 grind
theorem un(c:Cd m j)(h:Run m j a W)(d:m.Code[W]? =some i)(f:i.Op=21)(g:∀s,dq i.UN=some (s,true)->0<=v/\v<=s.most)(b:∀t,u64 (S.UU.Uu t)):
  QP m j a ⟨a.Uv,a.module,S,aset a.regs 0 v,a.LT,w64 (a.Uw+1),steps,state⟩ W:=by
 have l:=c.VA.Wq;have k:=h.lt
 have:=FT c h d (r:=(1,{a with UP:=S,regs:=aset a.regs 0 v})) (steps:=steps) (state:=state)
  ⟨rfl,rfl,rfl,b,W+1,by show w64 (a.Uw+1)=_;rw [h.Uw,qq (by omega) (by omega)];simp,.call v f g,λ_=>⟨rfl,by omega⟩,λe=>by omega⟩
 exact this
inductive uo (m:zE) (j:zj) (M:EM) (p:Nat) (i:zf) (r:qT×EM):Prop
 |ends:i.Op=22->r.1.TY=4->r.2.state=2->Run m j r.2 p->uo m j M p i r
 |asks:i.Op=21->i.UN<=4->r.1.TY=2->r.2.state=1->Run m j r.2 p->r.2.LT=M.LT->(r.1.Item.UI∈m.Maps/\0<=r.1.Item.Op/\r.1.Item.Op<5)->uo m j M p i r
 |goes:r.1.TY=1\/r.1.TY=3->r.2.state=0->QP m j M r.2 p->uo m j M p i r
theorem Lz(c:Cd m j)(h:Run m j a W)(A:a.state=0)(g:m.Code[W]? =some i):OK (uG 2199023255552 a) (λr=>uo m j a W i r/\r.1.Pc=W):=by
 have N:=c.VA;have k:=N.Vd.right g;have J:=pe k
 have B:idx a.module.Code a.Uw=some i:=by
  rw [h.VY,h.Uw];obtain ⟨x,O,P⟩:=aR h.lt
  grind
 have b:∀{steps state:Int},Run m j {a with steps:=steps,state:=state} W:=⟨h.VY,h.Uw,h.lt,h.known,h.u,h.fit,h.Uu,h.ev⟩
 unfold uG;refine d5 (λe=>by grind) (λ_=>d5 (λe=>by grind) (λ_=> ?_));rw [B];simp only [zbs];refine d5 (λe=> ?_) (λd=> ?_)
 ·have e:i.Op=21:=by simpa using e
  have C:=nq k e;obtain ⟨n,K⟩:=zof C.1;obtain ⟨L,Q,T,Z,U,s5,V⟩:=IY ⟨n,by omega⟩;have p:dq i.UN=some (L,true):=by rw [K];exact Q
  have q:L.VL=decide (n<=4):=T;refine d6 (R:=λr=>uo m j a W i r/\r.1.Pc=W) ?_ (λx y=>b9 y);unfold AY mZ;simp only [p,zbs];refine d5 (λt=> ?_) (λt=> ?_)
  ·have X:n<=4:=by rw [q] at t;exact yq t
   obtain ⟨w,x,y,D⟩:=h.known;have Y:=c.snd.VZ W i x h.lt g w y e (by omega);have hm:=(D 1 (by omega)).2 Y;have hw:=c.up.ji.wt W x y 1 (by omega)
   have hb:0<=(x 1).UI/\(x 1).UI<m.Maps.length:=by
    rcases hw with hw|hw|hw
    ·grind [pY]
    ·omega
    ·exact hw.2.2
   rw [h.VY];refine g9 (OK.get (by grind) (by grind) (λmp E=> ?_));obtain ⟨l,hl,_⟩:=EK ⟨n,by omega⟩;have F:xY 2199023255552 i.UN=some l:=by rw [K];exact hl
   rw [F];simp only [zbs];refine d6 (R:=λ_=>True) (d5 (λ_=>b9 trivial) (λ_=>b9 trivial)) (λv _=>b9 ⟨.asks e (by omega) rfl rfl ?_ rfl ⟨zmg E,V X⟩,h.Uw⟩);have:=b (steps:=w64 (a.steps+1)) (state:=1);rw [h.VY] at this;exact this
  ·have h5:n=5\/n=6:=by rw [q] at t;have:=z8 t;omega
   refine d6 (R:=λo=>(o.2.TY=1\/o.2.TY=3)/\o.2.Pc=(W:Int)/\o.1.state=0/\QP m j a ⟨o.1.Uv,o.1.module,o.1.UP,o.1.regs,o.1.LT,w64 (o.1.Uw+1),o.1.steps,o.1.state⟩ W) ?_ (λo z=>b9 ⟨.goes z.1 z.2.2.1 z.2.2.2,z.2.1⟩);refine d5 (λG=> ?_) (λG=>b9 ⟨.inr rfl,h.Uw,A,un c h g e (λs I=> ?_) h.Uu⟩)
   ·have G:n=5:=by
     grind
    refine d6 (Ou _ _) (λv M=>b9 ⟨.inl rfl,h.Uw,A,un c h g e (S:=⟨a.UP.UU,v.2.2⟩) (λs I=> ?_) h.Uu⟩);rw [p] at I;cases I;have:=U (.inr (.inr G));exact ⟨M.1,by have:=M.2;omega⟩
   grind
 refine d5 (λe=> ?_) (λf=> ?_)
 ·have e:i.Op=22:=by simpa using e
  rw [Ha J.1 J.2];exact b9 ⟨.ends e rfl rfl b,h.Uw⟩
 have d:i.Op≠21:=by simpa using d
 have f:i.Op≠22:=by simpa using f
 refine d6 (QO c (b (steps:=w64 (a.steps+1)) (state:=a.state)) g d f) (λr k=>b9 ⟨.goes (.inl rfl) (by show r.2.state=0;rw [k.st];exact A) ?_,h.Uw⟩)
 exact FT c (b (steps:=w64 (a.steps+1)) (state:=a.state)) g k
theorem LA(b:u64 f.UQ):OK (gU h f) (λv=>u64 v/\(h=1\/h=2\/h=3->v<=1)):=by
 unfold gU;refine d6 (R:=λo=>o=true↔h=0\/h=4) ?_ (λo c=> ?_)
 ·refine d5 (λe=>b9 ?_) (λe=>b9 ?_)
  ·grind
  grind
 refine d5 (λe=>b9 ⟨b,λd=>by grind⟩) (λ_=> ?_);refine d6 (R:=λ_=>True) (d5 (λ_=>b9 trivial) (λ_=>b9 trivial)) (λo _=> ?_);have z:u64 0/\(h=1\/h=2\/h=3->(0:Int)<=1):=⟨⟨by simp,by simp⟩,λ_=>by simp⟩
 have a:u64 1/\(h=1\/h=2\/h=3->(1:Int)<=1):=⟨⟨by simp,by simp⟩,λ_=>by simp⟩
 exact d5 (λ_=>d5 (λ_=>b9 a) (λ_=>b9 z)) (λ_=>d5 (λ_=>d5 (λ_=>b9 a) (λ_=>b9 z)) (λ_=>b9 z))
theorem IZ(k:Cd m j)(h:Run m j a W)(D:a.state=1)(l:m.Code[W]? =some i)(o:i.Op=21)(E:i.UN<=4)(b:u64 f.UQ):
  OK (nt a f) (λr=>r.1=0/\r.2.state=0/\QP m j a r.2 W):=by
 have t:=k.VA.Vd.right l;have c:=nq t o
 have d:idx a.module.Code a.Uw=some i:=by
  rw [h.VY,h.Uw];obtain ⟨x,u,w⟩:=aR h.lt
  grind
 unfold nt;refine d5 (λe=>by grind) (λ_=> ?_);rw [d];simp only [zbs];refine d6 (LA b) (λv p=>b9 ⟨rfl,rfl,un k h l o (λs q=> ?_) h.Uu⟩);obtain ⟨n,y⟩:=zof c.1;obtain ⟨z,A,F,G,I,J,K⟩:=IY ⟨n,by omega⟩;have g:dq i.UN=some (z,true):=by rw [y];exact A
 rw [g] at q;cases q;have B:=p.1.1;have C:=p.1.2
 grind
theorem Ov(h:l.length*8<=140737488355328):je l=some l:=by
 grind [je,room]
theorem Ow(h:b.length*40<=140737488355328):zV b=some b:=by
 grind [zV,room]
theorem ng(m:zE):∃o p e,xb 2199023255552 m=some (o,p,e)/\((e≠0/\o=none)\/(e=0/\p=0/\∃j,o=some j/\Cd m j)):=by
 obtain ⟨⟨o,p,e⟩,f,g⟩:=CD m;refine ⟨o,p,e,f,?_⟩;by_cases h:e=0
 ·subst h;obtain ⟨j,i,a,b,c,d⟩:=RT (CQ m) f rfl;exact .inr ⟨rfl,(g.VA rfl).1,j,i,⟨a,b,c,d⟩⟩
 ·exact .inl ⟨h,g.bad h⟩
theorem AA(h:xb 2199023255552 m=some (o,x,e)):vA 2199023255552 m=some (x,e):=by
 unfold vA;rw [h];cases o<;>rfl
def Nm(m:zE)(E:qr)(C:jp):EM:=⟨E,m,⟨⟨λ_=>0⟩,C⟩,λ_=>0,λ_=>0,0,0,0⟩
theorem S6(h:Cd m j)(c:u64 E.A/\u64 E.B)(C:jp):Run m j (Nm m E C) 0:=by
 have b:=h.VA.n1;refine ⟨rfl,rfl,b,h.snd.zero _ (λr _=>⟨by simp [Nm],by simp [Nm]⟩),λr _=>⟨by simp [Nm],by simp [Nm]⟩,λa i d e=> ?_,λt=>⟨by simp [Nm],by simp [Nm]⟩,c⟩
 ·have:=h.VA.Vd.loop d e
  grind [Nm]
open Go.Sx
def Rt(b:List Int)(r:Int×Int×Int):Prop:=0<=r.1/\0<=r.2.1/\r.2.1<=b.length
theorem gG(h: -9223372036854775808<=x)(a:x<9223372036854775808):w64 x=x:=qq h (by omega)
theorem NC(j:l.length<=140737488355328):OK (rR l) (Rt l):=by
 unfold rR;refine d6 (i5 (Q:=λo=>match o with|.inl _=>True|.inr r=>Rt l r) (λi s=>i<=9/\0<=s) ⟨by omega,by omega⟩ (λi s a b c k=> ?_) (λs c=>trivial)) (λo d=> ?_)
 ·unfold wO;refine i9 b (λx m=> ?_) |> g9
  refine d5 (λ_=>b9 ⟨by simp,by simp,by simp⟩) (λn=> ?_);have e:w64 (7*(i:Int))=7*(i:Int):=gG (by omega) (by omega);rw [e,fL (by omega)];simp only [zbs];have h:=CR s (Ah .u64 (vc (Ag .u8 x 127)) (7*(i:Int)));refine d5 (λf=>b9 ⟨h.1,?_,?_⟩) (λg=>k _ ⟨?_,h.1⟩)
  ·grind [gG]
  ·grind [gG]
  grind
 ·cases o with
  |inl _=>exact b9 ⟨by simp,by simp,by simp⟩
  |inr r=>exact b9 d
theorem J9(a:l.length<=140737488355328):OK (lz l) (λr=>0<=r.2.1/\r.2.1<=l.length):=by
 unfold lz;refine d6 (NC a) (λr h=>b9 ⟨h.2.1,h.2.2⟩)
structure RI (b:List Int) (r:zz):Prop where
 eb:r.b=b
 lo:0<=r.Uw
 hi:r.Uw<=b.length+1
 ok:r.e=0->r.Uw<=b.length
theorem pi{b:List Int}{r:zz}(h:RI b r)(a:e≠0):OK (qD r e) (λc=>RI b c/\c.e≠0):=by
 unfold qD;refine d5 (λ_=>b9 ⟨{h with ok:=λd=>absurd d a},a⟩) (λf=>b9 ⟨h,by simpa using f⟩)
theorem Mx(u:l.length<=140737488355328):OK (aN 2199023255552 ⟨l,0,0,0⟩) (RI l):=by
 unfold aN;refine d6 (OK.rounds (Q:=RI l) (RI l) (λs=>(3-s.Uw).toNat) ?_ 2199023255552 _ ⟨rfl,by simp,by simp;omega,λ_=>by simp⟩ (by simp)) (λ_ h=>b9 h);intro s f h k;unfold gE;refine d5 (λj=> ?_) (λ_=>b9 h);simp only [zae,zdq,x3] at j;have m:=h.lo;have v:=h.ok j.2;have n:w64 (s.Uw+1)=s.Uw+1:=gG (by omega) (by omega);have w:RI l {s with field:=s.Uw}:=⟨h.eb,h.lo,h.hi,h.ok⟩
 refine d6 (R:=λo=>o.b=l/\o.Uw=s.Uw/\(o.e=0->s.Uw<l.length)) ?_ (λo a=> ?_)
 ·refine d5 (λp=> ?_) (λq=> ?_)
  ·unfold qD;refine d6 (R:=λo=>o.b=l/\o.Uw=s.Uw/\o.e≠0) (d5 (λ_=>b9 ⟨h.eb,rfl,show (_:Int)≠0 from (by simp)⟩) (λg=>b9 ⟨h.eb,rfl,by simpa using g⟩)) (λo a=>b9 ⟨a.1,a.2.1,λe=>absurd e a.2.2⟩)
  ·have d:s.Uw<l.length:=by
    have e:=h.eb
    grind
   refine g9 (OK.get m (by grind) (λx y=> ?_))
   have i:∃c,wo (⟨[84,80,1].toArray⟩) s.Uw=some c:=by
    have:s.Uw=0\/s.Uw=1\/s.Uw=2:=by omega
    rcases this with e|e|e<;>rw [e]<;>exact ⟨_,rfl⟩
   obtain ⟨c,i⟩:=i;rw [i];simp only [zbs];refine d5 (λ_=> ?_) (λ_=>b9 ⟨h.eb,rfl,λ_=>d⟩);unfold qD;refine d6 (R:=λo=>o.b=l/\o.Uw=s.Uw/\o.e≠0) (d5 (λ_=>b9 ⟨h.eb,rfl,show (_:Int)≠0 from (by simp)⟩) (λg=>b9 ⟨h.eb,rfl,by simpa using g⟩)) (λo a=>b9 ⟨a.1,a.2.1,λe=>absurd e a.2.2⟩)
 ·obtain ⟨r,t,z⟩:=a;rw [t,n];exact k _ ⟨r,by simp;omega,by simp;omega,λe=>by grind⟩ (by simp;omega)
theorem iI(r:l.length<=140737488355328)(h:RI l y)(j:0<=x)(s:x<1000)(t:e≠0):
  OK (qZ y x e) (λp=>RI l p.2/\0<=p.1/\p.1<=x):=by
 unfold qZ;refine d5 (λf=>b9 ⟨h,by simp,by simpa using j⟩) (λf=> ?_);have k:y.e=0:=by simpa using f
 have m:=h.lo;have u:=h.ok k;rw [h.eb]
 have a:cut l y.Uw (l.length:Int)=some (l.drop y.Uw.toNat):=by
  unfold cut;rw [d7 ⟨m,by omega,by omega⟩];simp
 rw [a];simp only [zbs];refine d6 (NC (by simp;omega)) (λg b=> ?_);have d:=b.2.2;have n:=b.2.1;simp only [List.length_drop] at d;have o:w64 (y.Uw+g.2.1)=y.Uw+g.2.1:=gG (by omega) (by omega);rw [o];have q:RI l ⟨l,y.Uw+g.2.1,y.Uw,y.e⟩:=⟨rfl,by simp;omega,by simp;omega,λ_=>by simp;omega⟩
 refine d5 (λi=> ?_) (λ_=>d5 (λ_=> ?_) (λc=>b9 ⟨q,?_,?_⟩))
 ·grind [d6,pi,b9]
 ·grind [d6,pi,b9]
 ·have:g.1<=x:=by simpa using c
  rw [gG (by have:=b.1;omega) (by omega)];exact b.1
 ·have:g.1<=x:=by simpa using c
  rw [gG (by have:=b.1;omega) (by omega)];exact this
theorem Ka(i:zf):OK (fW [i]) (λ_=>True):=by
 unfold fW;refine d6 (i5 (Q:=λ_=>True) (λ_ _=>True) trivial (λj s a h _ k=> ?_) (λ_ _=>trivial)) (λo _=> ?_)
 ·unfold mS;refine g9 (i9 h (λx b=> ?_));rw [fJ];simp only [zbs];exact d5 (λ_=>b9 trivial) (λ_=>k _ trivial)
 grind [b9]
theorem Pz(i:l.length<=140737488355328)(h:RI l y):OK (bC y) (λp=>RI l p.2):=by
 unfold bC;refine d6 (iI i h (by decide) (by decide) (by decide)) (λa r=> ?_);refine d6 (iI i r.1 (by decide) (by decide) (by decide)) (λc s=> ?_);refine d6 (iI i s.1 (by decide) (by decide) (by decide)) (λd u=> ?_);refine d6 (iI i u.1 (by decide) (by decide) (by decide)) (λf v=> ?_);have j:=v.1;refine d5 (λ_=>b9 j) (λk=> ?_);have w:f.2.e=0:=by simpa using k
 have x:=j.lo;have C:=j.ok w;rw [j.eb]
 have b:cut l f.2.Uw (l.length:Int)=some (l.drop f.2.Uw.toNat):=by
  unfold cut;rw [d7 ⟨x,by omega,by omega⟩];simp
 rw [b];simp only [zbs];refine d6 (J9 (by simp;omega)) (λg n=> ?_);have m:=n.2;have z:=n.1;simp only [List.length_drop] at m;have A:w64 (f.2.Uw+g.2.1)=f.2.Uw+g.2.1:=gG (by omega) (by omega);rw [A];have B:∀q,RI l ⟨l,f.2.Uw+g.2.1,q,f.2.e⟩:=λq=>⟨rfl,by simp;omega,by simp;omega,λ_=>by simp;omega⟩
 refine d5 (λo=> ?_) (λ_=>d6 (Ka _) (λt _=>d5 (λ_=> ?_) (λ_=>b9 (B _))))
 ·grind [d6,pi,b9]
 grind [d6,pi,b9]
theorem Kb(f:l.length<=140737488355328):OK (xa 2199023255552 l) (λr=>r.2.2=0->pg r.1.Maps/\r.1.Code.length<=64):=by
 unfold xa;refine d6 (Mx f) (λF A=> ?_);refine d6 (iI f A (by decide) (by decide) (by decide)) (λn G=> ?_)
 refine d6 (OK.rounds (Q:=λo=>RI l o.1/\(∀x∈o.2,0<=x/\x<4)/\o.2.Nodup/\(o.2.length:Int)<=4)
  (λs=>RI l s.1/\(∀x∈s.2.1,0<=x/\x<4)/\s.2.1.Nodup/\s.2.2=s.2.1.length/\s.2.2<=n.1) (λs=>(n.1-s.2.2).toNat) ?_ 2199023255552 _ ?_ ?_) (λo g=> ?_)
 ·intro s d h k;obtain ⟨i,v,w,B,I⟩:=h;unfold oB;refine d5 (λj=> ?_) (λ_=>b9 ⟨i,v,w,by simp;omega⟩);have C:s.2.2<n.1:=by simpa using j
  refine d6 (iI f i (by decide) (by decide) (by decide)) (λq y=> ?_);rw [uF];simp only [zbs];refine d6 (R:=λo=>RI l o/\(o.e=0->q.1∉s.2.1)) (d5 (λm=>d6 (pi y.1 (by decide)) (λz p=>b9 ⟨p.1,λe=>absurd e p.2⟩)) (λm=>b9 ⟨y.1,λ_=>by simpa using m⟩)) (λo g=> ?_);refine d5 (λ_=>b9 ⟨g.1,v,w,by simp;omega⟩) (λD=> ?_)
  grind [g9,OK.hasRoom,w64,gG]
 ·grind
 ·grind
 refine d6 (iI f g.1 (by decide) (by decide) (by decide)) (λc j=> ?_);refine d6 (R:=RI l) (d5 (λ_=>d6 (pi j.1 (by decide)) (λz p=>b9 p.1)) (λ_=>b9 j.1)) (λJ v=> ?_);refine d6 (OK.rounds (Q:=λo=>RI l o.1/\(o.2.length:Int)<=64) (λs=>RI l s.1/\s.2.2=s.2.1.length/\s.2.2<=c.1) (λs=>(c.1-s.2.2).toNat) ?_ 2199023255552 _ ?_ ?_) (λu a=> ?_)
 ·intro s d h k;obtain ⟨i,w,B⟩:=h;have E:=j.2.2;unfold oC;refine d5 (λt=> ?_) (λ_=>b9 ⟨i,by simp;omega⟩);simp only [zae,zdq,x3] at t;refine d6 (Pz f i) (λq y=> ?_)
  grind [g9,OK.hasRoom,w64,gG]
 ·grind
 ·grind
 refine d6 (R:=λ_=>True) (d5 (λt=>d6 (pi (b:=l) (r:=⟨u.1.b,u.1.Uw,u.1.Uw,u.1.e⟩) ⟨a.1.eb,a.1.lo,a.1.hi,a.1.ok⟩ (e:=13) (by decide)) (λz p=>b9 trivial)) (λ_=>b9 trivial)) (λK _=> ?_);refine d5 (λD=>b9 (λh=> ?_)) (λ_=>b9 (λ_=>⟨⟨g.2.1,g.2.2.1,by grind⟩,by grind⟩))
 grind
open Go.Sx
def goodM(k:Int)(a:List Int):Prop:=a.Nodup/\∀m∈a,0<=m/\m<k
theorem goodM.take(h:goodM e l)(i:Nat):goodM e (l.take i):=
 ⟨h.1.sublist (List.take_sublist _ _),λm a=>h.2 m (Tz a)⟩
theorem sd(h:goodM e (l++[x])):0<=x/\x<e/\x∉l:=by
 have a:=h.2 x (by simp);have b:=k6.1 h.1
 grind
theorem eP(h:l[M]? =some x):l.take (M+1)=l.take M++[x]:=by
 rw [yh,h];rfl
theorem JH(p:zR)(d:List Int):OK (jN (fF p d) (λ(s:Unit)=>(.inl ())) d.length 0 ()) (λo=>match o with|.inl _=>goodM p.maps d|.inr r=>r=(2,p)/\¬ goodM p.maps d):=by
 refine i5 (λi _=>goodM p.maps (d.take i)) ⟨by simp,by simp⟩ ?_ ?_
 ·intro i s j v h k;unfold fF;refine g9 (i9 v (λx w=> ?_))
  have f:(goodM p.maps (d.take (i+1))->False)->OK (some (Sum.inr (2,p):Unit⊕(Int×zR))) (λo=>match o with|.inl _=>goodM p.maps d|.inr r=>r=(2,p)/\¬ goodM p.maps d):=
   λq=>b9 ⟨rfl,λc=>q (c.take _)⟩
  have t:=eP w;refine g9 (d5 (λl=>b9 ?_) (λl=>d5 (λn=>b9 ?_) (λn=> ?_)))
  ·simp only [q9];refine f (λc=> ?_);rw [t] at c;have:=sd c;simp at l;omega
  ·simp only [q9];refine f (λc=> ?_);rw [t] at c;have:=sd c;simp at n;omega
  ·rw [AF (by omega)];simp only [zbs,fM];refine b9 ?_;simp only [zdq];split
   ·rename_i u
    refine f (λc=> ?_);rw [t] at c;exact (sd c).2.2 u
   ·rename_i u
    refine k _ ?_;rw [t];simp at l n;refine ⟨k6.2 ⟨h.1,by simp,λa y b q e=> ?_⟩,λm g=> ?_⟩
    ·grind
    ·rcases f8.1 g with g|g
     ·exact h.2 m g
     grind
 grind
theorem Ga(x:List Int)(h:x.length*8<=140737488355328):je x=some x:=by
 grind [je,room]
open Classical in
theorem O9(a:zR)(p:Int)(m:List Int)(h:m.length*8<=140737488355328):
  dD a p m=some (if goodM a.maps m then (if (ja a.held p).isSome then (42,a) else (0,⟨a.maps,mput a.held p m⟩)) else (2,a)):=by
 obtain ⟨o,b,c⟩:=JH a m
 grind [dD,ja,Ga]
theorem He(p:zR)(m:Int)(h:p.held.length*8<=140737488355328):vt p m=some ((holds m p.held).mergeSort λx y=>decide (x<=y)):=by
 have hl:(holds m p.held).length<=p.held.length:=by
  unfold holds;rw [m6];exact TT _ _
 unfold vt;rw [wd,d7 (.inr (by simp only [yj,ya];omega))];unfold jr xu;simp only [Tr];rw [d7 (by omega)];rfl
theorem L8(p:zR)(m:Int)(h:p.held.length*8<=140737488355328)(a:0<=m)(b:m<p.maps):cG p m=some (((holds m p.held).length:Int),0):=by
 unfold cG;rw [d8 (by simp;omega),He p m h];simp [List.length_mergeSort]
def mdels{g:Type}(m:List (Int×g)):List Int->List (Int×g)
 |[]=>m
 |p::r=>mdels (mdel m p) r
theorem wZ(m:List (Int×g))(l:List Int)(p:Int):mdels m (l++[p])=mdel (mdels m l) p:=by
 induction l generalizing m with
 |nil=>rfl
 |cons q r i=>exact i _
theorem Pb(b:zR)(p:List Int):OK (jN (fC b p) (λ(s:Unit)=>(.inl ())) p.length 0 ()) (λo=>match o with|.inl _=>p.Nodup|.inr r=>r=(2,b)/\¬ p.Nodup):=by
 refine i5 (λi _=>(p.take i).Nodup) (by simp) ?_ ?_
 ·intro i s a c h k;unfold fC;refine g9 (i9 c (λx d=> ?_));have t:=eP d;rw [AF (by omega)];simp only [zbs,fM];refine d5 (λe=>b9 ⟨rfl,λf=> ?_⟩) (λe=>k _ ?_)
  ·have:=f.sublist (List.take_sublist (i+1) p)
   grind
  grind
 grind
theorem Pd(a:zR)(b:List Int):OK (jN (fD a b) (λ(s:Unit)=>(.inl ())) b.length 0 ()) (λo=>match o with|.inl _=>∀p∈b,(ja a.held p).isSome=true|.inr r=>r=(41,a)/\¬ ∀p∈b,(ja a.held p).isSome=true):=by
 refine i5 (λi _=>∀p∈b.take i,(ja a.held p).isSome=true) (by simp) ?_ ?_
 ·intro i s c d h k;unfold fD;refine g9 (i9 d (λx e=> ?_));refine d5 (λf=>b9 ⟨rfl,λg=> ?_⟩) (λf=>k _ ?_)
  ·grind
  ·rw [eP e]
   grind
 grind
theorem Pe(a:List Int)(p:zR):jN (fE a) (λ(s:zR)=>s) a.length 0 p=some ⟨p.maps,mdels p.held a⟩:=by
 refine OK.is (i5 (λi s=>s=⟨p.maps,mdels p.held (a.take i)⟩) rfl ?_ ?_)
 ·rintro i s b h rfl k;unfold fE;refine g9 (i9 h (λx c=>k _ ?_));rw [eP c,wZ]
 grind
open Classical in
theorem Pf(a:zR)(b:List Int):bL a b=some (if b.Nodup then (if ∀p∈b,(ja a.held p).isSome=true then (0,⟨a.maps,mdels a.held b⟩) else (41,a)) else (2,a)):=by
 obtain ⟨o,h,c⟩:=Pb a b;unfold bL;rw [h];rcases o with u|r
 ·obtain ⟨o,d,e⟩:=Pd a b
  grind [Pe]
 grind
theorem rk(m:List (Int×g))(k:Int)(x:g)(q:Int):ja (mput m k x) q=if k=q then some x else ja m q:=by
 induction m with
 |nil=>simp [mput,ja]
 |cons p m i=>
  grind [mput,ja]
theorem L9(m:List (Int×g))(k:Int):(mdel m k).length<=m.length:=by
 induction m with
 |nil=>simp [mdel]
 |cons p m i=>
  grind [mdel]
theorem JJ(a:List Int)(m:List (Int×g)):(mdels m a).length<=m.length:=by
 induction a generalizing m with
 |nil=>exact k9 _
 |cons p r i=>exact t8 (i _) (L9 _ _)
theorem Ma(m:List (Int×g))(k:Int)(x:g):(mput m k x).length<=m.length+1:=by
 induction m with
 |nil=>simp [mput]
 |cons p m i=>
  grind [mput]
def DC(m:List (Int×g)):Prop:=(m.map (·.1)).Nodup
theorem CL:ja z e=none↔e∉z.map (·.1):=by
 induction z with
 |nil=>simp [ja]
 |cons p z i=>
  grind [ja]
theorem A7(h:ja z e=none):mput z e A=z++[(e,A)]:=iK h
theorem DC.mput(h:DC z)(c:ja z v=none):DC (mput z v A):=by
 rw [A7 c];unfold DC;rw [k8];refine k6.2 ⟨h,by simp,λa f b d e=> ?_⟩;simp at d;subst d;subst e;exact CL.1 c f
theorem JK(m:List (Int×g))(k:Int):(mdel m k).Sublist m:=by
 induction m with
 |nil=>exact List.Sublist.refl _
 |cons p m i=>
  grind [mdel]
theorem DC.mdel(h:DC z)(k:Int):DC (mdel z k):=h.sublist ((JK z k).map _)
theorem JM(h:DC z)(k q:Int):ja (mdel z k) q=if k=q then none else ja z q:=by
 induction z with
 |nil=>simp [Sx.mdel,ja]
 |cons p z i=>
  have c:=q7.1 (show (p.1::z.map (·.1)).Nodup from h);unfold Sx.mdel;by_cases e:p.1==k
  ·have d:p.1=k:=by simpa using e
   rw [d7 e];by_cases a:k=q
   ·rw [d7 a];subst a;exact CL.2 (by grind)
   grind [ja]
  ·have d:p.1≠k:=by simpa using e
   rw [d8 e];unfold ja;by_cases b:p.1==q
   ·grind
   ·rw [d8 b,d8 b];exact i c.2
open Go.Sx
theorem uJ(m:List (Int×g))(k:Int)(x:g)(q:Int):ja (wn m k x) q=if k=q/\(ja m k).isSome then some x else ja m q:=by
 induction m with
 |nil=>simp [wn,gO,ja]
 |cons p m i=>
  by_cases h:p.1=k
  ·grind [wn,gO,ja]
  grind [wn,gO,ja]
theorem Gb(m:List (Int×g))(k:Int)(x:g):(wn m k x).map (·.1)=m.map (·.1):=by
 induction m with
 |nil=>simp [wn,gO]
 |cons p m i=>
  grind [wn,gO]
theorem Mb(m:List (Int×g))(k:Int)(x:g):(wn m k x).length=m.length:=by
 have:=congrArg List.length (Gb m k x)
 simpa using this
theorem JN{a:Type}(f:g->a)(m:List (Int×g))(k:Int)(x y:g)(h:ja m k=some y)(b:f x=f y):(wn m k x).map (λp=>(p.1,f p.2))=m.map (λp=>(p.1,f p.2)):=by
 induction m with
 |nil=>simp [wn,gO]
 |cons p m i=>
  grind [ja,wn,gO]
theorem Mc{a:Type}(f:g->a)(m:List (Int×g))(k:Int):(mdel m k).map (λp=>(p.1,f p.2))=mdel (m.map (λp=>(p.1,f p.2))) k:=by
 induction m with
 |nil=>rfl
 |cons p m i=>
  grind [mdel]
theorem Md{a:Type}(f:g->a)(m:List (Int×g))(k:Int):ja (m.map (λp=>(p.1,f p.2))) k=(ja m k).map f:=by
 induction m with
 |nil=>rfl
 |cons p m i=>
  grind [ja]
theorem Me(h:DC z)(a:B∈z):ja z B.1=some B.2:=by
 induction z with
 |nil=>cases a
 |cons q z i=>
  have b:q.1∉z.map (·.1)/\DC z:=by
   have:=q7.1 (show ((q::z).map (·.1)).Nodup from h);exact this
  rcases j5.1 a with rfl|a
  ·simp [ja]
  ·have:¬ q.1=B.1:=λe=>b.1 (by rw [e];exact List.mem_map_of_mem a)
   simp [ja,this,i b.2 a]
theorem Gc(h:ja z e=some A):(e,A)∈z:=by
 grind [eW]
structure fK (H M W:Nat) (n:Nat) (r:zb):Prop where
 Uk:r.Uk=H
 hl:r.Us.Uk.length=H
 maps:r.maps=M
 Wa:r.UY.maps=M
 wk:r.Uo.in_.length=W
 VS:H<=4/\M<=4/\W<=4
 UZ:n<=1000000000
 VJ:0<=r.given
 given:r.given<=n
 VT:0<=r.Us.UB.last
 last:r.Us.UB.last<=n
 VU:1<=r.Uo.Vs
 Vs:r.Uo.Vs<=n+1
 Wu:∀e∈r.Uo.in_,0<=e/\e<=r.Uo.Vs
 Vc:DC r.Uj
 len:r.Uj.length<=16
 prog:∀p x,ja r.Uj p=some x->1<=p/\p<=r.given/\pg x.module.Maps/\(∀m∈x.module.Maps,m<M)/\x.module.Code.length<=64/\0<=x.UD/\x.UD<=r.Uo.Vs
 held:r.UY.held=r.Uj.map (λp=>(p.1,p.2.module.Maps))
 Wx:r.waiting.Nodup
 VX:∀p,p∈r.waiting↔∃x,ja r.Uj p=some x/\0<x.UD
theorem fK.mono(h:fK H M W n r)(b:n<=n')(a:n'<=1000000000):fK H M W n' r:=
 {h with UZ:=a,given:=by have:=h.given;omega,last:=by have:=h.last;omega,Vs:=by have:=h.Vs;omega}
theorem fK.wlen(h:fK H M W n r):r.waiting.length<=r.Uj.length:=by
 have a:r.waiting ⊆ r.Uj.map (·.1):=λp b=>by
  obtain ⟨x,c,_⟩:=(h.VX p).1 b;exact List.mem_map_of_mem (f:=λ(q:Int×zS)=>q.1) (Gc c)
 have:=List.Nodup.length_le_of_subset h.Wx a
 simpa using this
theorem Re(j:1<=H)(h:H<=4)(b:M<=4)(k:1<=W)(a:W<=4):∃r,cd H M W=some (some r,0)/\fK H M W 0 r/\r.given=0/\r.Us.UB.last=0/\(r.Uj=[]/\∀u∈r.Us.Uk,u.Ux=0)/\r.waiting=[]/\r.Uo.in_=List.replicate W 0:=by
 have c:kX H=some (some ⟨⟨0⟩,List.replicate H ⟨0,0⟩⟩,0):=by
  grind [kX,mkLen]
 have d:lT M=some (some ⟨M,[]⟩,0):=by
  grind [lT]
 have f:eG W=some (some ⟨1,List.replicate W 0⟩,0):=by
  grind [eG,mkLen]
 refine ⟨_,by unfold cd;rw [c,d,f];rfl,?_,rfl,rfl,⟨rfl,λu g=>by rw [TB g]⟩,rfl,rfl⟩;exact {Uk:=rfl,hl:=by simp,maps:=rfl,Wa:=rfl,wk:=by simp,VS:=⟨h,b,a⟩,UZ:=by omega,VJ:=by simp,given:=by simp,VT:=by simp,last:=by simp,VU:=by simp,Vs:=by simp,Wu:=λe l=>by grind,Vc:=o5,len:=by simp,prog:=λp x i=>by simp [ja] at i,held:=rfl,Wx:=o5,VX:=λp=>by simp [ja]}
theorem Pg(f:¬ (1<=h/\h<=4/\0<=e/\e<=4/\1<=x/\x<=4)):cd h e x=some (none,2):=by
 unfold cd kX lT eG;by_cases g:1<=h/\h<=4
 ·have c:mkLen h 16=some h.toNat:=by unfold mkLen;rw [d7 ⟨by omega,by omega⟩]
  rw [d8 (by simp;omega),c];by_cases d:0<=e/\e<=4
  ·rw [d8 (by simp;omega)];rw [d7 (by simp;omega)];rfl
  ·rw [d7 (by simp;omega)];by_cases b:1<=x/\x<=4
   ·have a:mkLen x 8=some x.toNat:=by unfold mkLen;rw [d7 ⟨by omega,by omega⟩]
    rw [d8 (by simp;omega),a];rfl
   ·rw [d7 (by simp;omega)];rfl
 ·rw [d7 (by simp;omega)];by_cases d:0<=e/\e<=4
  ·rw [d8 (by simp;omega)];by_cases b:1<=x/\x<=4
   ·have a:mkLen x 8=some x.toNat:=by unfold mkLen;rw [d7 ⟨by omega,by omega⟩]
    rw [d8 (by simp;omega),a];rfl
   ·rw [d7 (by simp;omega)];rfl
  ·rw [d7 (by simp;omega)];by_cases b:1<=x/\x<=4
   ·have a:mkLen x 8=some x.toNat:=by unfold mkLen;rw [d7 ⟨by omega,by omega⟩]
    rw [d8 (by simp;omega),a];rfl
   ·rw [d7 (by simp;omega)];rfl
open Go.Sx
def mg(maps:Int)(b:List Int):Option (zE×Int):=(xa 2199023255552 b).bind λd=>if d.2.2 !=0 then some (d.1,d.2.2) else
 (vA 2199023255552 d.1).bind λj=>if j.2 !=0 then some (d.1,j.2) else some (d.1,if d.1.Maps.any (λx=>decide (maps<=x)) then 41 else 0)
theorem Hf(maps:Int)(c:l.length<=140737488355328):OK (mg maps l) (λv=>v.2=0->pg v.1.Maps/\(∀x∈v.1.Maps,x<maps)/\v.1.Code.length<=64):=by
 unfold mg;have a:=Kb c;refine d6 a (λd f=>d5 (λh=>b9 (λe=>absurd e (by simpa using h))) (λh=> ?_));have b:=f (by simpa using h);refine d6 (L3 d.1) (λj _=>d5 (λh=>b9 (λe=>absurd e (by simpa using h))) (λ_=>b9 (λe=>⟨b.1,λx g=> ?_,b.2⟩)))
 grind
def added(r:zb)(m:zE):zb:={r with UY:=⟨r.UY.maps,mput r.UY.held (r.given+1) m.Maps⟩,given:=r.given+1,Uj:=mput r.Uj (r.given+1) ⟨m,0⟩}
theorem rl(h:fK H M W n r):ja r.Uj (r.given+1)=none:=by
 cases a:ja r.Uj (r.given+1) with
 |none=>rfl
 |some x=>have:=(h.prog _ _ a).2.1;omega
theorem Gd(h:fK H M W n r)(p:Int):ja r.UY.held p=(ja r.Uj p).map (·.module.Maps):=by rw [h.held];exact Md (λ(x:zS)=>x.module.Maps) _ _
theorem Ph(r:zb)(d:zE×Int×Int):OK (jN (aj r d) (λ(s:Unit)=>(.inl ())) d.1.Maps.length 0 ()) (λo=>match o with|.inl _=>∀x∈d.1.Maps,x<r.maps|.inr q=>q=(0,41,r)/\¬ ∀x∈d.1.Maps,x<r.maps):=by
 refine i5 (λi _=>∀x∈d.1.Maps.take i,x<r.maps) (by simp) ?_ ?_
 ·intro i s a e g k;unfold aj;refine g9 (i9 e (λx b=>d5 (λc=>b9 ⟨rfl,λh=> ?_⟩) (λc=>k _ ?_)))
  ·have:=h x (zmg b);simp at c;omega
  ·intro y f;rw [eP b] at f
   grind
 grind
theorem Pi(h:fK H M W n r)(b:mg r.maps l=some C)(e:C.2=0->pg C.1.Maps/\(∀x∈C.1.Maps,x<r.maps)/\C.1.Code.length<=64):
  ju 2199023255552 r l=some (if C.2≠0 then (0,C.2,r) else if 16<=r.Uj.length then (0,40,r) else (r.given+1,0,added r C.1)):=by
 unfold mg at b;unfold ju;cases i:xa 2199023255552 l with
 |none=>rw [i] at b;simp at b
 |some d=>
  rw [i] at b;simp only [zbs] at b |-;by_cases s:d.2.2=0
  ·rw [d8 (by simp [s])] at b |-;cases k:vA 2199023255552 d.1 with
   |none=>rw [k] at b;simp at b
   |some j=>
    rw [k] at b;simp only [zbs] at b |-;by_cases f:j.2=0
    ·rw [d8 (by simp [f])] at b |-;simp only [i6] at b;obtain ⟨o,t,z⟩:=Ph r d;rw [t];simp only [zbs];cases o with
     |inr q=>
      grind
     |inl u=>
      have:d.1.Maps.any (λx=>decide (r.maps<=x))=false:=by
       grind
      rw [this] at b;subst b;have a:=e rfl;simp only;by_cases hl:16<=r.Uj.length
      ·grind
      ·rw [d8 (by simp;omega)];have v:=h.VJ;have w:=h.given;have A:=h.UZ;have y:w64 (r.given+1)=r.given+1:=gG (by omega) (by omega);have g:goodM r.UY.maps d.1.Maps:=⟨a.1.2.1,λm p=>⟨(a.1.1 m p).1,by rw [h.Wa,<- h.maps];exact a.2.1 m p⟩⟩
       have c:ja r.UY.held (r.given+1)=none:=by grind [Gd,rl]
       rw [y,O9 _ _ _ (by have:d.1.Maps.length<=4:=a.1.2.2;omega),d7 g,c];simp [hl,added]
    grind
  grind
theorem JO(h:fK H M W n r)(d:n+1<=1000000000)(hl:¬ 16<=r.Uj.length)(a:pg m.Maps/\(∀x∈m.Maps,x<M)/\m.Code.length<=64):fK H M W (n+1) (added r m):=by
 have c:=rl h;have f:=h.VJ;have g:=h.given;refine {Uk:=h.Uk,hl:=h.hl,maps:=h.maps,Wa:=h.Wa,wk:=h.wk,VS:=h.VS,UZ:=d,VJ:=by simp [added];omega,given:=by simp [added];omega,VT:=h.VT,last:=by have:=h.last;simp [added];omega,VU:=h.VU,Vs:=by have:=h.Vs;simp [added];omega,Wu:=h.Wu,Vc:=h.Vc.mput c,len:= ?_,prog:= ?_,held:= ?_,Wx:=h.Wx,VX:= ?_}
 ·grind [Ma,added]
 ·intro p x b;simp only [added,rk] at b |-;split at b
  ·rename_i e
   cases b
   exact ⟨by omega,by omega,a.1,a.2.1,a.2.2,by simp,by have:=h.VU;simp;omega⟩
  ·have:=h.prog p x b
   grind
 ·simp only [added];have i:ja r.UY.held (r.given+1)=none:=by grind [Gd]
  rw [A7 c,A7 i,h.held];simp
 ·intro p;rw [show (added r m).waiting=r.waiting from rfl,h.VX p]
  grind [added,rk]
def Hg(r:zb)(t:zC):zb:={r with Us:=t}
theorem CM(h:fK H M W n r)(a:n+1<=1000000000)(b:D.Uk.length=H)(c:0<=D.UB.last)(d:D.UB.last<=n+1):fK H M W (n+1) (Hg r D):=
 {h.mono (n':=n+1) (by omega) a with hl:=b,VT:=c,last:=by simp [Hg];omega}
theorem ph{g:Type}{l:List g}(h:0<=e)(a:e<l.length):∃x,idx l e=some x/\l[e.toNat]? =some x:=by
 have hl:e.toNat<l.length:=by omega
 refine ⟨l[e.toNat],?_,zeg hl⟩;unfold idx
 grind
theorem Aa(h:fK H M W n r)(a:0<=e)(f:e<H):xA r.Us e v=some (r.Us.UB.last+1,0,⟨⟨r.Us.UB.last+1⟩,r.Us.Uk.set e.toNat ⟨r.Us.UB.last+1,v⟩⟩):=by
 have g:=h.UZ;have b:=h.VT;have c:=h.last;unfold xA aC bp;rw [gG (by omega) (by omega)];obtain ⟨x,d,_⟩:=ph (l:=r.Us.Uk) a (by rw [h.hl];omega);simp [d]
structure CN (r:zb) (k p:Int) (q:Int×Int×zb):Prop where
 no:q.2.1≠0->q.1=0/\q.2.2=r
 yes:q.2.1=0->q.1=r.Us.UB.last+1/\(∃x,ja r.Uj p=some x/\x.UD=0)/\∃l,l=r.Us.Uk.set k.toNat ⟨r.Us.UB.last+1,p⟩/\q.2.2=Hg r ⟨⟨r.Us.UB.last+1⟩,l⟩
 Wj:0<=k->k<r.Uk->ja r.Uj p=none->q.1=0/\q.2.1=41
theorem Hh(h:fK H M W n r)(a:0<=e)(b:e<H):OK (vZ r.Us e v) (λq=>(q.2.1≠0/\q.1=0/\q.2.2=r.Us)\/(q.2.1=0/\q.1=r.Us.UB.last+1/\∃l,l=r.Us.Uk.set e.toNat ⟨r.Us.UB.last+1,v⟩/\q.2.2=⟨⟨r.Us.UB.last+1⟩,l⟩)):=by
 unfold vZ jg jh;obtain ⟨x,c,_⟩:=ph (l:=r.Us.Uk) a (by rw [h.hl];omega);simp only [zbs,c,Aa h a b];refine d5 (λ_=>b9 (.inl ⟨by simp,rfl,rfl⟩)) (λ_=>d5 (λ_=>b9 (.inl ⟨by simp,rfl,rfl⟩)) (λ_=>b9 (.inr ⟨rfl,rfl,_,rfl,rfl⟩)))
theorem Mf(h:fK H M W n r)(a:0<=e)(b:e<H):OK (bD r.Us e v) (λq=>(q.2.1≠0/\q.1=0/\q.2.2=r.Us)\/(q.2.1=0/\q.1=r.Us.UB.last+1/\∃l,l=r.Us.Uk.set e.toNat ⟨r.Us.UB.last+1,v⟩/\q.2.2=⟨⟨r.Us.UB.last+1⟩,l⟩)):=by
 unfold bD jg jh;obtain ⟨x,c,_⟩:=ph (l:=r.Us.Uk) a (by rw [h.hl];omega);simp only [zbs,c,Aa h a b];refine d5 (λ_=>b9 (.inl ⟨by simp,rfl,rfl⟩)) (λ_=>d5 (λ_=>b9 (.inl ⟨by simp,rfl,rfl⟩)) (λ_=>b9 (.inr ⟨rfl,rfl,_,rfl,rfl⟩)))
theorem rm(h:fK H M W n r)(k p:Int):OK (jB r k p) (CN r k p):=by
 unfold jB;refine d5 (λb=>b9 ⟨λ_=>⟨rfl,rfl⟩,λe=>by simp at e,λi=>by simp at b;omega⟩) (λi=> ?_);refine d5 (λb=>b9 ⟨λ_=>⟨rfl,rfl⟩,λe=>by simp at e,λ_ j=>by simp at b;omega⟩) (λj=> ?_);have c:0<=k:=by simp at i;omega
 have d:k<H:=by simp [h.Uk] at j;omega
 cases m:ja r.Uj p with
 |none=>
  refine j7 rfl ?_;exact b9 ⟨λ_=>⟨rfl,rfl⟩,λe=>by simp at e,λ_ _ _=>⟨rfl,rfl⟩⟩
 |some x=>
  refine o9 rfl ?_;simp only [zbs];refine d5 (λb=>b9 ⟨λ_=>⟨rfl,rfl⟩,λe=>by simp at e,λ_ _ _=>⟨rfl,rfl⟩⟩) (λb=> ?_);refine d6 (Hh h c d) (λq o=>b9 ?_);rcases o with ⟨f,g,a⟩|⟨f,g,l,hl,a⟩
  ·exact ⟨λ_=>⟨g,by rw [a]⟩,λe=>absurd e f,λ_ _ s=>by grind⟩
  ·exact ⟨λe=>absurd f e,λ_=>⟨g,⟨x,m,by simpa using b⟩,l,hl,by rw [a];rfl⟩,λ_ _ s=>by grind⟩
theorem A8(h:fK H M W n r)(k p:Int):OK (jT r k p) (CN r k p):=by
 unfold jT;refine d5 (λb=>b9 ⟨λ_=>⟨rfl,rfl⟩,λe=>by simp at e,λi=>by simp at b;omega⟩) (λi=> ?_);refine d5 (λb=>b9 ⟨λ_=>⟨rfl,rfl⟩,λe=>by simp at e,λ_ j=>by simp at b;omega⟩) (λj=> ?_);have c:0<=k:=by simp at i;omega
 have d:k<H:=by simp [h.Uk] at j;omega
 cases m:ja r.Uj p with
 |none=>
  refine j7 rfl ?_;exact b9 ⟨λ_=>⟨rfl,rfl⟩,λe=>by simp at e,λ_ _ _=>⟨rfl,rfl⟩⟩
 |some x=>
  refine o9 rfl ?_;simp only [zbs];refine d5 (λb=>b9 ⟨λ_=>⟨rfl,rfl⟩,λe=>by simp at e,λ_ _ _=>⟨rfl,rfl⟩⟩) (λb=> ?_);refine d6 (Mf h c d) (λq o=>b9 ?_);rcases o with ⟨f,g,a⟩|⟨f,g,l,hl,a⟩
  ·exact ⟨λ_=>⟨g,by rw [a]⟩,λe=>absurd e f,λ_ _ s=>by grind⟩
  ·exact ⟨λe=>absurd f e,λ_=>⟨g,⟨x,m,by simpa using b⟩,l,hl,by rw [a];rfl⟩,λ_ _ s=>by grind⟩
theorem CN.inv(h:fK H M W n r)(a:n+1<=1000000000)(b:CN r x v G):fK H M W (n+1) G.2.2:=by
 by_cases e:G.2.1=0
 ·obtain ⟨_,_,l,hl,c⟩:=b.yes e;rw [c];have d:=h.VT;have f:=h.last;exact CM h a (by rw [hl,j8];exact h.hl) (by simp;omega) (by simp;omega)
 ·rw [(b.no e).2];exact h.mono (by omega) a
end Go.Proofs.YtplmgfkghomelaaGreatDoor
