/- Lemmas. -/
import Derived.Test.YtplmgfkghomelaaGreatDoorKSem
import Derived.Test.YtplmgfkghomelaaGreatDoorO1
set_option linter.all false
namespace Go.Proofs.YtplmgfkghomelaaGreatDoor
open Go.Sx
variable {g:Type}{M W H n q n':Nat}{r:zb}{i:zf}{m:zE}{j:zj}{b:List zf}{e x v steps state h:Int}{back k:Nat->Int}{a d:EM}{c:qP}{S:zm}{f:zk}{l:List Int}{o:Option zj}{E:qr}{y:zw}{z:List (Int×g)}{A:g}{B:zE×Int}{C:zz}{D:Int×Int×zb}
theorem NL(g:uZ b)(h:Way b M q)(p:M<q):∀a,qW b q a=true->qW b M a=true\/∃i,b[a]? =some i/\(q:Int)=a-i.D:=by
 intro a j;obtain ⟨c,d,k,u,v,w,x,r,y⟩:=iO g j;by_cases l:qW b M a=true
 ·exact .inl l
 ·right
  refine ⟨c,d,?_⟩;have e:qW b M a=false:=by simpa using l
  obtain ⟨i,m,s⟩:=h;rcases s with ⟨n,o⟩|⟨n,o,f⟩
  ·rcases Int.lt_or_le ((a:Int)-c.D) q with f|f
   ·exfalso
    have:=(xx d k).2 (show (a:Int)-c.D<=M/\M<=a by omega)
    grind
   ·omega
  ·rcases Int.lt_or_le ((a:Int)-c.D) q with t|t
   ·exfalso
    exact g.en M (zes.1 m).1 ⟨i,m,n,o,a,c,q,r,d,k,f,j,e,by omega⟩
   ·omega
theorem Ir(g:uZ b)(d:Fit b back)(e:M<b.length)(h:Way b M q)(c:M<q)(s:∀a,a≠M->k a=back a)(f:∀i,b[M]? =some i->i.Op=20->q=M+1)(j:∀i,b[M]? =some i->i.Op≠20->k M=back M):
  pot b k q b.length+1<=pot b back M b.length:=by
 refine FM e (λt l=>Od g d c (NL g h c) (λa m=> ?_) l);obtain ⟨n,o,p,u,v,w,x,y,z⟩:=iO g m;have r:=d a n o p
 grind
structure Run (m:zE) (j:zj) (M:EM) (p:Nat):Prop where
 UV:M.module=m
 Tt:M.Tt=p
 lt:p<m.Code.length
 known:At j p M.regs
 u:uI M.regs
 fit:Fit m.Code M.LT
 Tp:∀i,u64 (M.TK.TP.Tp i)
 ev:u64 M.Tq.A/\u64 M.Tq.B
structure B6 (m:zE) (j:zj):Prop where
 Ux:uZ m.Code
 goodM:ut m.Maps
 up:GL m m.Code.length j
 snd:Snd m m.Code.length j
theorem Am(h:i.B=8\/(0<=i.B/\i.B<8)):ip a i=some (Ey i a.regs):=by
 grind [ip,Ey,GJ]
theorem NM(h:∀i,u64 (c.Tp i))(t:Int):OK (xM c t) (λr=>u64 r.1):=by
 unfold xM;refine d5 (λ_=>b9 ⟨by simp,by simp⟩) (λa=> ?_)
 grind [ain,b9]
theorem KW(h:∀i,u64 (c.Tp i))(t:Int)(a:u64 v):OK (xt c t v) (λr=>∀i,u64 (r.2.Tp i)):=by
 unfold xt;refine d5 (λ_=>b9 h) (λb=> ?_)
 grind [ain,b9,u64,aset]
theorem NN(C:jo)(t:Int):OK (xa C t) (λr=>u64 r.1):=by
 unfold xa;refine d5 (λ_=>b9 ⟨by simp,by simp⟩) (λh=> ?_)
 grind [ain,b9,u64,aset,xe]
structure Ran (m:zE) (i:zf) (p:Nat) (M:EM) (r:Int×EM):Prop where
 UV:r.2.module=M.module
 st:r.2.state=M.state
 ev:r.2.Tq=M.Tq
 Tp:∀i,u64 (r.2.TK.TP.Tp i)
 step:∃q:Nat,w64 (M.Tt+r.1)=q/\Stp i p M.regs q r.2.regs/\(i.Op≠20->r.2.LT=M.LT/\p<q)/\
  (i.Op=20->(q=p+1/\r.2.LT=aset M.LT p 0)\/((q:Int)=p-i.D/\M.LT p<i.TJ/\r.2.LT=aset M.LT p (M.LT p+1)))
theorem P6(Q:B6 m j)(h:Run m j a W)(l:m.Code[W]? =some i)(T:i.Op≠21)(U:i.Op≠22):OK (Cx a i) (Ran m i W a):=by
 have n:=Q.Ux;have hn:=n.Vi;have c:=n.TX.right l;have V:=nE c;have N:=oJ c;have hp:=h.lt;have X:=h.Tt;have one:w64 (a.Tt+1)=((W+1:Nat):Int):=by grind [qe]
 have g:ain 8 i.A=some i.A.toNat:=GJ N.1 N.2;have p:¬ (15<=i.Op/\i.Op<=20)->ain 8 i.D=some i.D.toNat:=λh=>GJ (oI c h).1 (oI c h).2
 have plain:∀{R:Nat->Int} {S:zm},i.Op≠20->(∀t,u64 (S.TP.Tp t))->Stp i W a.regs (W+1) R->Ran m i W a (1,{a with TK:=S,regs:=R}):=
  λd Y Z=>⟨rfl,rfl,rfl,Y,W+1,one,Z,λ_=>⟨rfl,by omega⟩,λe=>absurd e d⟩
 unfold Cx;refine d5 (λe=> ?_) (λe0=> ?_)
 ·have e:i.Op=0:=by simpa using e
  rw [Am (bA c (.inl (by omega))),p (by omega)];exact b9 (plain (by omega) h.Tp (.set e))
 refine d5 (λe=> ?_) (λw=> ?_)
 ·have e:i.Op=11:=by simpa using e
  rw [Am (bA c (.inl (by omega)))];simp only [zbs];refine d6 (NM h.Tp _) (λv y=> ?_);rw [p (by omega)];exact b9 (plain (by omega) h.Tp (.any v.1 (.inl e) y))
 refine d5 (λe=> ?_) (λz=> ?_)
 ·have e:i.Op=12:=by simpa using e
  rw [g,Am (bA c (.inl (by omega)))];simp only [zbs];exact d6 (KW h.Tp _ (h.u _ (by omega))) (λv y=>b9 (plain (by omega) y (.store e)))
 refine d5 (λe=> ?_) (λC=> ?_)
 ·have e:i.Op=13:=by simpa using e
  rw [p (by omega)];simp only [zbs];refine d5 (λ_=>b9 ?_) (λ_=>b9 (plain (by omega) h.Tp (.any _ (.inr e) h.ev.1)))
  have:aset (aset a.regs i.D.toNat a.Tq.A) i.D.toNat a.Tq.B=aset a.regs i.D.toNat a.Tq.B:=by
   grind [aset]
  rw [this];exact plain (by omega) h.Tp (.any _ (.inr e) h.ev.2)
 refine d5 (λe=> ?_) (λE=> ?_)
 ·have e:i.Op=14:=by simpa using e
  have F:=oK c e;rw [p (by omega),vd (x:=i.TJ) F.1 (by omega)];exact b9 (plain (by omega) h.Tp (.map e))
 refine d5 (λe=> ?_) (λG=> ?_)
 ·have e:i.Op=15:=by simpa using e
  have hl:(jr i).2.1=true:=by grind [cH]
  have b:=n.TX.leads l hl;rw [cH c (by omega) (by omega)] at b;simp only at b;have hJ:=sB (i:=i) (by grind [eL,inB]);obtain ⟨q,hq⟩:=zof b.1;refine b9 ⟨rfl,rfl,rfl,h.Tp,q,?_,.jump q e (by omega),λ_=>⟨rfl,by omega⟩,λO=>by omega⟩
  grind [w64,qe]
 refine d5 (λe=> ?_) (λI=> ?_)
 ·have e:i.Op=20:=by simpa using e
  have hlp:=n.TX.loop l e;have P:=h.fit W i l e;have r:ain 64 a.Tt=some W:=by grind [Qq]
  rw [g,r];simp only [zbs];refine d6 (R:=λo=>o=true->a.LT W<i.TJ) (d5 (λ_=>b9 (λh=>yd h)) (λ_=>b9 (λh=>by cases h))) (λo k=> ?_);refine d5 (λJ=>b9 ?_) (λ_=>b9 ?_)
  ·have K:=k J;refine ⟨rfl,rfl,rfl,h.Tp,((W:Int)-i.D).toNat,?_,.back _ e (by omega),λd=>absurd e d,λ_=>.inr ⟨by omega,K,?_⟩⟩
   ·grind [w64,qe]
   grind [aset,w64,qe]
  ·exact ⟨rfl,rfl,rfl,h.Tp,W+1,one,.on e,λd=>absurd e d,λ_=>.inl ⟨rfl,rfl⟩⟩
 simp only [beq_eq_false_iff_ne,ne_eq] at e0 w z C E G I;have s:i.B=8\/(0<=i.B/\i.B<8):=bA c (by omega);have L:=AY h.u s;have M:=h.u i.A.toNat (by omega);rw [g,Am s];simp only [zbs];rw [AV M L];simp only [zbs];refine d5 (λk=> ?_) (λk=> ?_)
 ·simp at k;rw [p (by omega)];exact b9 (plain (by omega) h.Tp (.arith k.1 k.2))
 ·have f:16<=i.Op/\i.Op<=19:=by
   rw [Bool.and_eq_false_iff] at k
   grind
  rw [FS];simp only [zbs];have hl:(jr i).2.1=true:=by grind [cH]
  have b:=n.TX.leads l hl;rw [cH c (by omega) (by omega)] at b;simp only at b;have hJ:=sB (i:=i) (by grind [eL,inB]);obtain ⟨q,hq⟩:=zof b.1;refine d5 (λJ=>b9 ?_) (λhf=>b9 ?_)
  ·refine ⟨rfl,rfl,rfl,h.Tp,q,?_,.yes q f.1 f.2 J (by omega),λ_=>⟨rfl,by omega⟩,λO=>by omega⟩
   grind [w64,qe]
  ·exact ⟨rfl,rfl,rfl,h.Tp,W+1,one,.no f.1 f.2 hf,λ_=>⟨rfl,by omega⟩,λO=>by omega⟩
theorem An{r:Nat->Int}(f:xd i=true)(g:b[M]? =some i)(h:Stp i M k q r)(d:i.Op=20->q=M+1):Way b M q:=by
 have on:(jr i).2.2=true->Way b M (M+1):=λh=>⟨i,g,.inl ⟨h,rfl⟩⟩
 have p:¬ (15<=i.Op/\i.Op<=20)->i.Op≠22->(jr i).2.2=true:=λl m=>by grind [wS]
 have j:∀{q:Nat},15<=i.Op->i.Op<=19->(q:Int)=M+(i.D+1)->Way b M q:=λ{q}l m t=>by
  have:=sB (i:=i) (by grind [eL,inB]);exact ⟨i,g,.inr ⟨by grind [cH],by grind [cH],by grind [cH]⟩⟩
 cases h with
 |set e=>exact on (p (by omega) (by omega))
 |arith a c=>exact on (p (by omega) (by omega))
 |any v e n=>exact on (p (by omega) (by omega))
 |store e=>exact on (p (by omega) (by omega))
 |map e=>exact on (p (by omega) (by omega))
 |jump q a c=>exact j (by omega) (by omega) c
 |yes q a c o s=>exact j (by omega) (by omega) s
 |no a c o=>exact on (by grind [cH])
 |back q a c=>rw [d a];exact on (by rw [pN f a])
 |on e=>exact on (by rw [pN f e])
 |call v e n=>exact on (p (by omega) (by omega))
def P7(m:zE)(j:zj)(M a:EM)(p:Nat):Prop:=∃q,Run m j a q/\pot m.Code a.LT q m.Code.length+1<=pot m.Code M.LT p m.Code.length/\
 ∃i,m.Code[p]? =some i/\((jr i).2.1=true/\(q:Int)=p+(jr i).1\/(jr i).2.2=true/\(q:Int)=p+1)
theorem Way.to(h:Way b M q):∃i,b[M]? =some i/\((jr i).2.1=true/\(q:Int)=M+(jr i).1\/(jr i).2.2=true/\(q:Int)=M+1):=by
 obtain ⟨i,a,h|h⟩:=h
 ·grind
 grind
theorem Fv(y:B6 m j)(h:Run m j d W)(k:m.Code[W]? =some i){r:Int×EM}(w:Ran m i W d r):
  P7 m j d ⟨r.2.Tq,r.2.module,r.2.TK,r.2.regs,r.2.LT,w64 (d.Tt+r.1),steps,state⟩ W:=by
 have o:=y.Ux;have g:=o.TX.right k;obtain ⟨q,I,f,p,z⟩:=w.step;have s:=y.snd.step W i _ h.lt k h.known.1 h.known.2.choose_spec.1 d.regs q r.2.regs h.u h.known.2.choose_spec.2 f
 have B:q<m.Code.length:=by
  have:=(zes.1 s.1).1;rw [y.up.ji.UJ] at this;exact this
 have base:Fit m.Code r.2.LT->Run m j ⟨r.2.Tq,r.2.module,r.2.TK,r.2.regs,r.2.LT,w64 (d.Tt+r.1),steps,state⟩ q:=
  λJ=>⟨by rw [<- h.UV];exact w.UV,I,B,s,f.u64s g h.u,J,w.Tp,by show u64 r.2.Tq.A/\_;rw [w.ev];exact h.ev⟩
 by_cases c:i.Op=20
 ·have K:=o.TX.loop k c;have G:=h.fit W i k c;rcases z c with ⟨rfl,l⟩|⟨C,n,l⟩
  ·refine ⟨W+1,base ?_,?_,(An g k f (λ_=>rfl)).to⟩
   ·intro a D v x;rw [l];unfold aset;split
    ·grind
    ·exact h.fit a D v x
   ·show pot m.Code r.2.LT _ _+1<=_;refine Ir o h.fit h.lt (An g k f (λ_=>rfl)) (by omega) (λa v=> ?_) (λ_ _ _=>rfl) (λL E p=> ?_)
    ·rw [l];unfold aset;rw [d8 v]
    grind
  ·refine ⟨q,base ?_,?_,i,k,.inl (by grind [pN])⟩
   ·intro a D v x;rw [l];unfold aset;split
    ·grind
    ·exact h.fit a D v x
   ·show pot m.Code r.2.LT _ _+1<=_;refine FM h.lt (λt F=>Lt o h.fit k c C ?_ (λb M=> ?_) n F)
    ·rw [l];unfold aset;rw [d7 rfl]
    ·rw [l];unfold aset;rw [d8 M]
 ·obtain ⟨l,n⟩:=p c;refine ⟨q,base (by rw [l];exact h.fit),?_,(An g k f (λe=>absurd e c)).to⟩
  show pot m.Code r.2.LT _ _+1<=_;refine Ir o h.fit h.lt (An g k f (λe=>absurd e c)) n (λa _=>by rw [l]) (λL E x=> ?_) (λ_ _ _=>by rw [l])
  grind
theorem Is:∀k:Fin 7,∃s,dl ((k:Nat):Int)=some (s,true)/\s.UG=decide ((k:Nat)<=4)/\0<=s.most/\(((k:Nat)=0\/(k:Nat)=4\/(k:Nat)=5)->s.most=18446744073709551615)/\(((k:Nat)=1\/(k:Nat)=2\/(k:Nat)=3)->s.most=1)/\((k:Nat)<=4->0<=s.asks/\s.asks<5):=by
 intro k;have h:∀k:Fin 7,((dl ((k:Nat):Int)).map (λr=>r.2&&(r.1.UG==decide ((k:Nat)<=4))&&decide (0<=r.1.most)&&(!(decide ((k:Nat)=0)||decide ((k:Nat)=4)||decide ((k:Nat)=5))||r.1.most==18446744073709551615)&&(!(decide ((k:Nat)=1)||decide ((k:Nat)=2)||decide ((k:Nat)=3))||r.1.most==1)&&(!decide ((k:Nat)<=4)||(decide (0<=r.1.asks)&&decide (r.1.asks<5)))))=some true:=by decide+kernel
 obtain ⟨⟨s,b⟩,a,c⟩:=yn.1 (h k)
 grind
theorem uc(c:B6 m j)(h:Run m j a W)(d:m.Code[W]? =some i)(f:i.Op=21)(g:∀s,dl i.TJ=some (s,true)->0<=v/\v<=s.most)(b:∀t,u64 (S.TP.Tp t)):
  P7 m j a ⟨a.Tq,a.module,S,aset a.regs 0 v,a.LT,w64 (a.Tt+1),steps,state⟩ W:=by
 have l:=c.Ux.Vi;have k:=h.lt
 have:=Fv c h d (r:=(1,{a with TK:=S,regs:=aset a.regs 0 v})) (steps:=steps) (state:=state)
  ⟨rfl,rfl,rfl,b,W+1,by show w64 (a.Tt+1)=_;rw [h.Tt,qe (by omega) (by omega)];simp,.call v f g,λ_=>⟨rfl,by omega⟩,λe=>by omega⟩
 exact this
inductive ud (m:zE) (j:zj) (M:EM) (p:Nat) (i:zf) (r:qT×EM):Prop
 |ends:i.Op=22->r.1.SV=4->r.2.state=2->Run m j r.2 p->ud m j M p i r
 |asks:i.Op=21->i.TJ<=4->r.1.SV=2->r.2.state=1->Run m j r.2 p->r.2.LT=M.LT->(r.1.Item.TB∈m.Maps/\0<=r.1.Item.Op/\r.1.Item.Op<5)->ud m j M p i r
 |goes:r.1.SV=1\/r.1.SV=3->r.2.state=0->P7 m j M r.2 p->ud m j M p i r
theorem KX(c:B6 m j)(h:Run m j a W)(A:a.state=0)(g:m.Code[W]? =some i):OK (uu 2199023255552 a) (λr=>ud m j a W i r/\r.1.Pc=W):=by
 have N:=c.Ux;have k:=N.TX.right g;have J:=oJ k
 have B:idx a.module.Code a.Tt=some i:=by
  rw [h.UV,h.Tt];obtain ⟨x,O,P⟩:=aO h.lt
  grind
 have b:∀{steps state:Int},Run m j {a with steps:=steps,state:=state} W:=⟨h.UV,h.Tt,h.lt,h.known,h.u,h.fit,h.Tp,h.ev⟩
 unfold uu;refine d5 (λe=>by grind) (λ_=>d5 (λe=>by grind) (λ_=> ?_));rw [B];simp only [zbs];refine d5 (λe=> ?_) (λd=> ?_)
 ·have e:i.Op=21:=by simpa using e
  have C:=mU k e;obtain ⟨n,K⟩:=zof C.1;obtain ⟨L,Q,T,Z,U,s5,V⟩:=Is ⟨n,by omega⟩;have p:dl i.TJ=some (L,true):=by rw [K];exact Q
  have q:L.UG=decide (n<=4):=T;refine d6 (R:=λr=>ud m j a W i r/\r.1.Pc=W) ?_ (λx y=>b9 y);unfold AN mI;simp only [p,zbs];refine d5 (λt=> ?_) (λt=> ?_)
  ·have X:n<=4:=by rw [q] at t;exact yd t
   obtain ⟨w,x,y,D⟩:=h.known;have Y:=c.snd.UT W i x h.lt g w y e (by omega);have hm:=(D 1 (by omega)).2 Y;have hw:=c.up.ji.wt W x y 1 (by omega)
   have hb:0<=(x 1).TB/\(x 1).TB<m.Maps.length:=by
    rcases hw with hw|hw|hw
    ·grind [pJ]
    ·omega
    ·exact hw.2.2
   rw [h.UV];refine g9 (OK.get (by grind) (by grind) (λmp E=> ?_));obtain ⟨l,hl,_⟩:=Em ⟨n,by omega⟩;have F:xW 2199023255552 i.TJ=some l:=by rw [K];exact hl
   rw [F];simp only [zbs];refine d6 (R:=λ_=>True) (d5 (λ_=>b9 trivial) (λ_=>b9 trivial)) (λv _=>b9 ⟨.asks e (by omega) rfl rfl ?_ rfl ⟨zmg E,V X⟩,h.Tt⟩);have:=b (steps:=w64 (a.steps+1)) (state:=1);rw [h.UV] at this;exact this
  ·have h5:n=5\/n=6:=by rw [q] at t;have:=yv t;omega
   refine d6 (R:=λo=>(o.2.SV=1\/o.2.SV=3)/\o.2.Pc=(W:Int)/\o.1.state=0/\P7 m j a ⟨o.1.Tq,o.1.module,o.1.TK,o.1.regs,o.1.LT,w64 (o.1.Tt+1),o.1.steps,o.1.state⟩ W) ?_ (λo z=>b9 ⟨.goes z.1 z.2.2.1 z.2.2.2,z.2.1⟩);refine d5 (λG=> ?_) (λG=>b9 ⟨.inr rfl,h.Tt,A,uc c h g e (λs I=> ?_) h.Tp⟩)
   ·have G:n=5:=by
     grind
    refine d6 (NN _ _) (λv M=>b9 ⟨.inl rfl,h.Tt,A,uc c h g e (S:=⟨a.TK.TP,v.2.2⟩) (λs I=> ?_) h.Tp⟩);rw [p] at I;cases I;have:=U (.inr (.inr G));exact ⟨M.1,by have:=M.2;omega⟩
   grind
 refine d5 (λe=> ?_) (λf=> ?_)
 ·have e:i.Op=22:=by simpa using e
  rw [GJ J.1 J.2];exact b9 ⟨.ends e rfl rfl b,h.Tt⟩
 have d:i.Op≠21:=by simpa using d
 have f:i.Op≠22:=by simpa using f
 refine d6 (P6 c (b (steps:=w64 (a.steps+1)) (state:=a.state)) g d f) (λr k=>b9 ⟨.goes (.inl rfl) (by show r.2.state=0;rw [k.st];exact A) ?_,h.Tt⟩)
 exact Fv c (b (steps:=w64 (a.steps+1)) (state:=a.state)) g k
theorem KY(b:u64 f.TL):OK (gM h f) (λv=>u64 v/\(h=1\/h=2\/h=3->v<=1)):=by
 unfold gM;refine d6 (R:=λo=>o=true↔h=0\/h=4) ?_ (λo c=> ?_)
 ·refine d5 (λe=>b9 ?_) (λe=>b9 ?_)
  ·grind
  grind
 refine d5 (λe=>b9 ⟨b,λd=>by grind⟩) (λ_=> ?_);refine d6 (R:=λ_=>True) (d5 (λ_=>b9 trivial) (λ_=>b9 trivial)) (λo _=> ?_);have z:u64 0/\(h=1\/h=2\/h=3->(0:Int)<=1):=⟨⟨by simp,by simp⟩,λ_=>by simp⟩
 have a:u64 1/\(h=1\/h=2\/h=3->(1:Int)<=1):=⟨⟨by simp,by simp⟩,λ_=>by simp⟩
 exact d5 (λ_=>d5 (λ_=>b9 a) (λ_=>b9 z)) (λ_=>d5 (λ_=>d5 (λ_=>b9 a) (λ_=>b9 z)) (λ_=>b9 z))
theorem It(k:B6 m j)(h:Run m j a W)(D:a.state=1)(l:m.Code[W]? =some i)(o:i.Op=21)(E:i.TJ<=4)(b:u64 f.TL):
  OK (mX a f) (λr=>r.1=0/\r.2.state=0/\P7 m j a r.2 W):=by
 have t:=k.Ux.TX.right l;have c:=mU t o
 have d:idx a.module.Code a.Tt=some i:=by
  rw [h.UV,h.Tt];obtain ⟨x,u,w⟩:=aO h.lt
  grind
 unfold mX;refine d5 (λe=>by grind) (λ_=> ?_);rw [d];simp only [zbs];refine d6 (KY b) (λv p=>b9 ⟨rfl,rfl,uc k h l o (λs q=> ?_) h.Tp⟩);obtain ⟨n,y⟩:=zof c.1;obtain ⟨z,A,F,G,I,J,K⟩:=Is ⟨n,by omega⟩;have g:dl i.TJ=some (z,true):=by rw [y];exact A
 rw [g] at q;cases q;have B:=p.1.1;have C:=p.1.2
 grind
theorem NO(h:l.length*8<=140737488355328):jd l=some l:=by
 grind [jd,room]
theorem NP(h:b.length*40<=140737488355328):zT b=some b:=by
 grind [zT,room]
theorem mL(m:zE):∃o p e,jZ 2199023255552 m=some (o,p,e)/\((e≠0/\o=none)\/(e=0/\p=0/\∃j,o=some j/\B6 m j)):=by
 obtain ⟨⟨o,p,e⟩,f,g⟩:=Cw m;refine ⟨o,p,e,f,?_⟩;by_cases h:e=0
 ·subst h;obtain ⟨j,i,a,b,c,d⟩:=Q2 (CK m) f rfl;exact .inr ⟨rfl,(g.Ux rfl).1,j,i,⟨a,b,c,d⟩⟩
 ·exact .inl ⟨h,g.bad h⟩
theorem Ao(h:jZ 2199023255552 m=some (o,x,e)):vx 2199023255552 m=some (x,e):=by
 unfold vx;rw [h];cases o<;>rfl
def MM(m:zE)(E:qr)(C:jo):EM:=⟨E,m,⟨⟨λ_=>0⟩,C⟩,λ_=>0,λ_=>0,0,0,0⟩
theorem R4(h:B6 m j)(c:u64 E.A/\u64 E.B)(C:jo):Run m j (MM m E C) 0:=by
 have b:=h.Ux.n1;refine ⟨rfl,rfl,b,h.snd.zero _ (λr _=>⟨by simp [MM],by simp [MM]⟩),λr _=>⟨by simp [MM],by simp [MM]⟩,λa i d e=> ?_,λt=>⟨by simp [MM],by simp [MM]⟩,c⟩
 ·have:=h.Ux.TX.loop d e
  grind [MM]
open Go.Sx
def QC(b:List Int)(r:Int×Int×Int):Prop:=0<=r.1/\0<=r.2.1/\r.2.1<=b.length
theorem gy(h: -9223372036854775808<=x)(a:x<9223372036854775808):w64 x=x:=qe h (by omega)
theorem MX(j:l.length<=140737488355328):OK (ry l) (QC l):=by
 unfold ry;refine d6 (i7 (Q:=λo=>match o with|.inl _=>True|.inr r=>QC l r) (λi s=>i<=9/\0<=s) ⟨by omega,by omega⟩ (λi s a b c k=> ?_) (λs c=>trivial)) (λo d=> ?_)
 ·unfold wE;refine j4 b (λx m=> ?_) |> g9
  refine d5 (λ_=>b9 ⟨by simp,by simp,by simp⟩) (λn=> ?_);have e:w64 (7*(i:Int))=7*(i:Int):=gy (by omega) (by omega);rw [e,fE (by omega)];simp only [zbs];have h:=CL s (wX .u64 (xZ (wW .u8 x 127)) (7*(i:Int)));refine d5 (λf=>b9 ⟨h.1,?_,?_⟩) (λg=>k _ ⟨?_,h.1⟩)
  ·grind [gy]
  ·grind [gy]
  grind
 ·cases o with
  |inl _=>exact b9 ⟨by simp,by simp,by simp⟩
  |inr r=>exact b9 d
theorem Jz(a:l.length<=140737488355328):OK (kS l) (λr=>0<=r.2.1/\r.2.1<=l.length):=by
 unfold kS;refine d6 (MX a) (λr h=>b9 ⟨h.2.1,h.2.2⟩)
structure RI (b:List Int) (r:zw):Prop where
 eb:r.b=b
 lo:0<=r.Tt
 hi:r.Tt<=b.length+1
 ok:r.e=0->r.Tt<=b.length
theorem oP{b:List Int}{r:zw}(h:RI b r)(a:e≠0):OK (qC r e) (λc=>RI b c/\c.e≠0):=by
 unfold qC;refine d5 (λ_=>b9 ⟨{h with ok:=λd=>absurd d a},a⟩) (λf=>b9 ⟨h,by simpa using f⟩)
theorem LX(u:l.length<=140737488355328):OK (aL 2199023255552 ⟨l,0,0,0⟩) (RI l):=by
 unfold aL;refine d6 (OK.rounds (Q:=RI l) (RI l) (λs=>(3-s.Tt).toNat) ?_ 2199023255552 _ ⟨rfl,by simp,by simp;omega,λ_=>by simp⟩ (by simp)) (λ_ h=>b9 h);intro s f h k;unfold gv;refine d5 (λj=> ?_) (λ_=>b9 h);simp only [zae,zdq,w6] at j;have m:=h.lo;have v:=h.ok j.2;have n:w64 (s.Tt+1)=s.Tt+1:=gy (by omega) (by omega);have w:RI l {s with field:=s.Tt}:=⟨h.eb,h.lo,h.hi,h.ok⟩
 refine d6 (R:=λo=>o.b=l/\o.Tt=s.Tt/\(o.e=0->s.Tt<l.length)) ?_ (λo a=> ?_)
 ·refine d5 (λp=> ?_) (λq=> ?_)
  ·unfold qC;refine d6 (R:=λo=>o.b=l/\o.Tt=s.Tt/\o.e≠0) (d5 (λ_=>b9 ⟨h.eb,rfl,show (_:Int)≠0 from (by simp)⟩) (λg=>b9 ⟨h.eb,rfl,by simpa using g⟩)) (λo a=>b9 ⟨a.1,a.2.1,λe=>absurd e a.2.2⟩)
  ·have d:s.Tt<l.length:=by
    have e:=h.eb
    grind
   refine g9 (OK.get m (by grind) (λx y=> ?_))
   have i:∃c,wd (⟨[84,80,1].toArray⟩) s.Tt=some c:=by
    have:s.Tt=0\/s.Tt=1\/s.Tt=2:=by omega
    rcases this with e|e|e<;>rw [e]<;>exact ⟨_,rfl⟩
   obtain ⟨c,i⟩:=i;rw [i];simp only [zbs];refine d5 (λ_=> ?_) (λ_=>b9 ⟨h.eb,rfl,λ_=>d⟩);unfold qC;refine d6 (R:=λo=>o.b=l/\o.Tt=s.Tt/\o.e≠0) (d5 (λ_=>b9 ⟨h.eb,rfl,show (_:Int)≠0 from (by simp)⟩) (λg=>b9 ⟨h.eb,rfl,by simpa using g⟩)) (λo a=>b9 ⟨a.1,a.2.1,λe=>absurd e a.2.2⟩)
 ·obtain ⟨r,t,z⟩:=a;rw [t,n];exact k _ ⟨r,by simp;omega,by simp;omega,λe=>by grind⟩ (by simp;omega)
theorem iw(r:l.length<=140737488355328)(h:RI l y)(j:0<=x)(s:x<1000)(t:e≠0):
  OK (qZ y x e) (λp=>RI l p.2/\0<=p.1/\p.1<=x):=by
 unfold qZ;refine d5 (λf=>b9 ⟨h,by simp,by simpa using j⟩) (λf=> ?_);have k:y.e=0:=by simpa using f
 have m:=h.lo;have u:=h.ok k;rw [h.eb]
 have a:cut l y.Tt (l.length:Int)=some (l.drop y.Tt.toNat):=by
  unfold cut;rw [d7 ⟨m,by omega,by omega⟩];simp
 rw [a];simp only [zbs];refine d6 (MX (by simp;omega)) (λg b=> ?_);have d:=b.2.2;have n:=b.2.1;simp only [List.length_drop] at d;have o:w64 (y.Tt+g.2.1)=y.Tt+g.2.1:=gy (by omega) (by omega);rw [o];have q:RI l ⟨l,y.Tt+g.2.1,y.Tt,y.e⟩:=⟨rfl,by simp;omega,by simp;omega,λ_=>by simp;omega⟩
 refine d5 (λi=> ?_) (λ_=>d5 (λ_=> ?_) (λc=>b9 ⟨q,?_,?_⟩))
 ·grind [d6,oP,b9]
 ·grind [d6,oP,b9]
 ·have:g.1<=x:=by simpa using c
  rw [gy (by have:=b.1;omega) (by omega)];exact b.1
 ·have:g.1<=x:=by simpa using c
  rw [gy (by have:=b.1;omega) (by omega)];exact this
theorem JA(i:zf):OK (fP [i]) (λ_=>True):=by
 unfold fP;refine d6 (i7 (Q:=λ_=>True) (λ_ _=>True) trivial (λj s a h _ k=> ?_) (λ_ _=>trivial)) (λo _=> ?_)
 ·unfold mD;refine g9 (j4 h (λx b=> ?_));rw [fD];simp only [zbs];exact d5 (λ_=>b9 trivial) (λ_=>k _ trivial)
 grind [b9]
theorem OL(i:l.length<=140737488355328)(h:RI l y):OK (bv y) (λp=>RI l p.2):=by
 unfold bv;refine d6 (iw i h (by decide) (by decide) (by decide)) (λa r=> ?_);refine d6 (iw i r.1 (by decide) (by decide) (by decide)) (λc s=> ?_);refine d6 (iw i s.1 (by decide) (by decide) (by decide)) (λd u=> ?_);refine d6 (iw i u.1 (by decide) (by decide) (by decide)) (λf v=> ?_);have j:=v.1;refine d5 (λ_=>b9 j) (λk=> ?_);have w:f.2.e=0:=by simpa using k
 have x:=j.lo;have C:=j.ok w;rw [j.eb]
 have b:cut l f.2.Tt (l.length:Int)=some (l.drop f.2.Tt.toNat):=by
  unfold cut;rw [d7 ⟨x,by omega,by omega⟩];simp
 rw [b];simp only [zbs];refine d6 (Jz (by simp;omega)) (λg n=> ?_);have m:=n.2;have z:=n.1;simp only [List.length_drop] at m;have A:w64 (f.2.Tt+g.2.1)=f.2.Tt+g.2.1:=gy (by omega) (by omega);rw [A];have B:∀q,RI l ⟨l,f.2.Tt+g.2.1,q,f.2.e⟩:=λq=>⟨rfl,by simp;omega,by simp;omega,λ_=>by simp;omega⟩
 refine d5 (λo=> ?_) (λ_=>d6 (JA _) (λt _=>d5 (λ_=> ?_) (λ_=>b9 (B _))))
 ·grind [d6,oP,b9]
 grind [d6,oP,b9]
theorem JB(f:l.length<=140737488355328):OK (dV 2199023255552 l) (λr=>r.2.2=0->ut r.1.Maps/\r.1.Code.length<=64):=by
 unfold dV;refine d6 (LX f) (λF A=> ?_);refine d6 (iw f A (by decide) (by decide) (by decide)) (λn G=> ?_)
 refine d6 (OK.rounds (Q:=λo=>RI l o.1/\(∀x∈o.2,0<=x/\x<4)/\o.2.Nodup/\(o.2.length:Int)<=4)
  (λs=>RI l s.1/\(∀x∈s.2.1,0<=x/\x<4)/\s.2.1.Nodup/\s.2.2=s.2.1.length/\s.2.2<=n.1) (λs=>(n.1-s.2.2).toNat) ?_ 2199023255552 _ ?_ ?_) (λo g=> ?_)
 ·intro s d h k;obtain ⟨i,v,w,B,I⟩:=h;unfold ob;refine d5 (λj=> ?_) (λ_=>b9 ⟨i,v,w,by simp;omega⟩);have C:s.2.2<n.1:=by simpa using j
  refine d6 (iw f i (by decide) (by decide) (by decide)) (λq y=> ?_);rw [ur];simp only [zbs];refine d6 (R:=λo=>RI l o/\(o.e=0->q.1∉s.2.1)) (d5 (λm=>d6 (oP y.1 (by decide)) (λz p=>b9 ⟨p.1,λe=>absurd e p.2⟩)) (λm=>b9 ⟨y.1,λ_=>by simpa using m⟩)) (λo g=> ?_);refine d5 (λ_=>b9 ⟨g.1,v,w,by simp;omega⟩) (λD=> ?_)
  grind [g9,OK.hasRoom,w64,gy]
 ·grind
 ·grind
 refine d6 (iw f g.1 (by decide) (by decide) (by decide)) (λc j=> ?_);refine d6 (R:=RI l) (d5 (λ_=>d6 (oP j.1 (by decide)) (λz p=>b9 p.1)) (λ_=>b9 j.1)) (λJ v=> ?_);refine d6 (OK.rounds (Q:=λo=>RI l o.1/\(o.2.length:Int)<=64) (λs=>RI l s.1/\s.2.2=s.2.1.length/\s.2.2<=c.1) (λs=>(c.1-s.2.2).toNat) ?_ 2199023255552 _ ?_ ?_) (λu a=> ?_)
 ·intro s d h k;obtain ⟨i,w,B⟩:=h;have E:=j.2.2;unfold od;refine d5 (λt=> ?_) (λ_=>b9 ⟨i,by simp;omega⟩);simp only [zae,zdq,w6] at t;refine d6 (OL f i) (λq y=> ?_)
  grind [g9,OK.hasRoom,w64,gy]
 ·grind
 ·grind
 refine d6 (R:=λ_=>True) (d5 (λt=>d6 (oP (b:=l) (r:=⟨u.1.b,u.1.Tt,u.1.Tt,u.1.e⟩) ⟨a.1.eb,a.1.lo,a.1.hi,a.1.ok⟩ (e:=13) (by decide)) (λz p=>b9 trivial)) (λ_=>b9 trivial)) (λK _=> ?_);refine d5 (λD=>b9 (λh=> ?_)) (λ_=>b9 (λ_=>⟨⟨g.2.1,g.2.2.1,by grind⟩,by grind⟩))
 grind
open Go.Sx
def goodM(k:Int)(a:List Int):Prop:=a.Nodup/\∀m∈a,0<=m/\m<k
theorem goodM.take(h:goodM e l)(i:Nat):goodM e (l.take i):=
 ⟨h.1.sublist (List.take_sublist _ _),λm a=>h.2 m (y7 a)⟩
theorem rJ(h:goodM e (l++[x])):0<=x/\x<e/\x∉l:=by
 have a:=h.2 x (by simp);have b:=l6.1 h.1
 grind
theorem eM(h:l[M]? =some x):l.take (M+1)=l.take M++[x]:=by
 rw [yc,h];rfl
theorem Ja(p:zZ)(d:List Int):OK (jM (fA p d) (λ(s:Unit)=>(.inl ())) d.length 0 ()) (λo=>match o with|.inl _=>goodM p.maps d|.inr r=>r=(2,p)/\¬ goodM p.maps d):=by
 refine i7 (λi _=>goodM p.maps (d.take i)) ⟨by simp,by simp⟩ ?_ ?_
 ·intro i s j v h k;unfold fA;refine g9 (j4 v (λx w=> ?_))
  have f:(goodM p.maps (d.take (i+1))->False)->OK (some (Sum.inr (2,p):Unit⊕(Int×zZ))) (λo=>match o with|.inl _=>goodM p.maps d|.inr r=>r=(2,p)/\¬ goodM p.maps d):=
   λq=>b9 ⟨rfl,λc=>q (c.take _)⟩
  have t:=eM w;refine g9 (d5 (λl=>b9 ?_) (λl=>d5 (λn=>b9 ?_) (λn=> ?_)))
  ·simp only [s7];refine f (λc=> ?_);rw [t] at c;have:=rJ c;simp at l;omega
  ·simp only [s7];refine f (λc=> ?_);rw [t] at c;have:=rJ c;simp at n;omega
  ·rw [Au (by omega)];simp only [zbs,iA];refine b9 ?_;simp only [zdq];split
   ·rename_i u
    refine f (λc=> ?_);rw [t] at c;exact (rJ c).2.2 u
   ·rename_i u
    refine k _ ?_;rw [t];simp at l n;refine ⟨l6.2 ⟨h.1,by simp,λa y b q e=> ?_⟩,λm g=> ?_⟩
    ·grind
    ·rcases g8.1 g with g|g
     ·exact h.2 m g
     grind
 grind
theorem FO(x:List Int)(h:x.length*8<=140737488355328):jd x=some x:=by
 grind [jd,room]
open Classical in
theorem Om(a:zZ)(p:Int)(m:List Int)(h:m.length*8<=140737488355328):
  dz a p m=some (if goodM a.maps m then (if (jz a.held p).isSome then (42,a) else (0,⟨a.maps,mput a.held p m⟩)) else (2,a)):=by
 obtain ⟨o,b,c⟩:=Ja a m
 grind [dz,jz,FO]
def mdels{g:Type}(m:List (Int×g)):List Int->List (Int×g)
 |[]=>m
 |p::r=>mdels (mdel m p) r
theorem wP(m:List (Int×g))(l:List Int)(p:Int):mdels m (l++[p])=mdel (mdels m l) p:=by
 induction l generalizing m with
 |nil=>rfl
 |cons q r i=>exact i _
theorem On(b:zZ)(p:List Int):OK (jM (fw b p) (λ(s:Unit)=>(.inl ())) p.length 0 ()) (λo=>match o with|.inl _=>p.Nodup|.inr r=>r=(2,b)/\¬ p.Nodup):=by
 refine i7 (λi _=>(p.take i).Nodup) (by simp) ?_ ?_
 ·intro i s a c h k;unfold fw;refine g9 (j4 c (λx d=> ?_));have t:=eM d;rw [Au (by omega)];simp only [zbs,iA];refine d5 (λe=>b9 ⟨rfl,λf=> ?_⟩) (λe=>k _ ?_)
  ·have:=f.sublist (List.take_sublist (i+1) p)
   grind
  grind
 grind
theorem Oo(a:zZ)(b:List Int):OK (jM (fy a b) (λ(s:Unit)=>(.inl ())) b.length 0 ()) (λo=>match o with|.inl _=>∀p∈b,(jz a.held p).isSome=true|.inr r=>r=(41,a)/\¬ ∀p∈b,(jz a.held p).isSome=true):=by
 refine i7 (λi _=>∀p∈b.take i,(jz a.held p).isSome=true) (by simp) ?_ ?_
 ·intro i s c d h k;unfold fy;refine g9 (j4 d (λx e=> ?_));refine d5 (λf=>b9 ⟨rfl,λg=> ?_⟩) (λf=>k _ ?_)
  ·grind
  ·rw [eM e]
   grind
 grind
theorem Oq(a:List Int)(p:zZ):jM (fz a) (λ(s:zZ)=>s) a.length 0 p=some ⟨p.maps,mdels p.held a⟩:=by
 refine OK.is (i7 (λi s=>s=⟨p.maps,mdels p.held (a.take i)⟩) rfl ?_ ?_)
 ·rintro i s b h rfl k;unfold fz;refine g9 (j4 h (λx c=>k _ ?_));rw [eM c,wP]
 grind
open Classical in
theorem Ot(a:zZ)(b:List Int):bF a b=some (if b.Nodup then (if ∀p∈b,(jz a.held p).isSome=true then (0,⟨a.maps,mdels a.held b⟩) else (41,a)) else (2,a)):=by
 obtain ⟨o,h,c⟩:=On a b;unfold bF;rw [h];rcases o with u|r
 ·obtain ⟨o,d,e⟩:=Oo a b
  grind [Oq]
 grind
theorem uB(m:List (Int×g))(k:Int)(x:g)(q:Int):jz (mput m k x) q=if k=q then some x else jz m q:=by
 induction m with
 |nil=>simp [mput,jz]
 |cons p m i=>
  grind [mput,jz]
theorem Lz(m:List (Int×g))(k:Int):(mdel m k).length<=m.length:=by
 induction m with
 |nil=>simp [mdel]
 |cons p m i=>
  grind [mdel]
theorem Jb(a:List Int)(m:List (Int×g)):(mdels m a).length<=m.length:=by
 induction a generalizing m with
 |nil=>exact m6 _
 |cons p r i=>exact p9 (i _) (Lz _ _)
theorem LA(m:List (Int×g))(k:Int)(x:g):(mput m k x).length<=m.length+1:=by
 induction m with
 |nil=>simp [mput]
 |cons p m i=>
  grind [mput]
def FP(m:List (Int×g)):Prop:=(m.map (·.1)).Nodup
theorem CC:jz z e=none↔e∉z.map (·.1):=by
 induction z with
 |nil=>simp [jz]
 |cons p z i=>
  grind [jz]
theorem AQ(h:jz z e=none):mput z e A=z++[(e,A)]:=iz h
theorem FP.mput(h:FP z)(c:jz z v=none):FP (mput z v A):=by
 rw [AQ c];unfold FP;rw [o7];refine l6.2 ⟨h,by simp,λa f b d e=> ?_⟩;simp at d;subst d;subst e;exact CC.1 c f
theorem Jc(m:List (Int×g))(k:Int):(mdel m k).Sublist m:=by
 induction m with
 |nil=>exact List.Sublist.refl _
 |cons p m i=>
  grind [mdel]
theorem FP.mdel(h:FP z)(k:Int):FP (mdel z k):=h.sublist ((Jc z k).map _)
theorem Je(h:FP z)(k q:Int):jz (mdel z k) q=if k=q then none else jz z q:=by
 induction z with
 |nil=>simp [Sx.mdel,jz]
 |cons p z i=>
  have c:=t9.1 (show (p.1::z.map (·.1)).Nodup from h);unfold Sx.mdel;by_cases e:p.1==k
  ·have d:p.1=k:=by simpa using e
   rw [d7 e];by_cases a:k=q
   ·rw [d7 a];subst a;exact CC.2 (by grind)
   grind [jz]
  ·have d:p.1≠k:=by simpa using e
   rw [d8 e];unfold jz;by_cases b:p.1==q
   ·grind
   ·rw [d8 b,d8 b];exact i c.2
open Go.Sx
theorem CD(m:List (Int×g))(k:Int)(x:g)(q:Int):jz (wc m k x) q=if k=q/\(jz m k).isSome then some x else jz m q:=by
 induction m with
 |nil=>simp [wc,gG,jz]
 |cons p m i=>
  by_cases h:p.1=k
  ·grind [wc,gG,jz]
  grind [wc,gG,jz]
theorem FQ(m:List (Int×g))(k:Int)(x:g):(wc m k x).map (·.1)=m.map (·.1):=by
 induction m with
 |nil=>simp [wc,gG]
 |cons p m i=>
  grind [wc,gG]
theorem LC(m:List (Int×g))(k:Int)(x:g):(wc m k x).length=m.length:=by
 have:=congrArg List.length (FQ m k x)
 simpa using this
theorem Jf{a:Type}(f:g->a)(m:List (Int×g))(k:Int)(x y:g)(h:jz m k=some y)(b:f x=f y):(wc m k x).map (λp=>(p.1,f p.2))=m.map (λp=>(p.1,f p.2)):=by
 induction m with
 |nil=>simp [wc,gG]
 |cons p m i=>
  grind [jz,wc,gG]
theorem LD{a:Type}(f:g->a)(m:List (Int×g))(k:Int):(mdel m k).map (λp=>(p.1,f p.2))=mdel (m.map (λp=>(p.1,f p.2))) k:=by
 induction m with
 |nil=>rfl
 |cons p m i=>
  grind [mdel]
theorem LF{a:Type}(f:g->a)(m:List (Int×g))(k:Int):jz (m.map (λp=>(p.1,f p.2))) k=(jz m k).map f:=by
 induction m with
 |nil=>rfl
 |cons p m i=>
  grind [jz]
theorem LG(h:jz z e=some A):(e,A)∈z:=by
 grind [eS]
structure fJ (H M W:Nat) (n:Nat) (r:zb):Prop where
 Te:r.Te=H
 hl:r.Tk.Te.length=H
 maps:r.maps=M
 UZ:r.Ue.maps=M
 wk:r.Th.in_.length=W
 UN:H<=4/\M<=4/\W<=4
 TU:n<=1000000000
 UR:0<=r.given
 given:r.given<=n
 UO:0<=r.Tk.Ty.last
 last:r.Tk.Ty.last<=n
 UP:1<=r.Th.Uq
 Uq:r.Th.Uq<=n+1
 Vm:∀e∈r.Th.in_,0<=e/\e<=r.Th.Uq
 Ub:FP r.Tl
 len:r.Tl.length<=16
 prog:∀p x,jz r.Tl p=some x->1<=p/\p<=r.given/\ut x.module.Maps/\(∀m∈x.module.Maps,m<M)/\x.module.Code.length<=64/\0<=x.TH/\x.TH<=r.Th.Uq
 held:r.Ue.held=r.Tl.map (λp=>(p.1,p.2.module.Maps))
 Vu:r.waiting.Nodup
 UU:∀p,p∈r.waiting↔∃x,jz r.Tl p=some x/\0<x.TH
theorem fJ.mono(h:fJ H M W n r)(b:n<=n')(a:n'<=1000000000):fJ H M W n' r:=
 {h with TU:=a,given:=by have:=h.given;omega,last:=by have:=h.last;omega,Uq:=by have:=h.Uq;omega}
theorem fJ.wlen(h:fJ H M W n r):r.waiting.length<=r.Tl.length:=by
 have a:r.waiting ⊆ r.Tl.map (·.1):=λp b=>by
  obtain ⟨x,c,_⟩:=(h.UU p).1 b;exact List.mem_map_of_mem (f:=λ(q:Int×zU)=>q.1) (LG c)
 have:=List.Nodup.length_le_of_subset h.Vu a
 simpa using this
theorem Qu(j:1<=H)(h:H<=4)(b:M<=4)(k:1<=W)(a:W<=4):∃r,bY H M W=some (some r,0)/\fJ H M W 0 r/\r.given=0/\r.Tk.Ty.last=0/\(r.Tl=[]/\∀u∈r.Tk.Te,u.Ts=0)/\r.waiting=[]/\r.Th.in_=List.replicate W 0:=by
 have c:kG H=some (some ⟨⟨0⟩,List.replicate H ⟨0,0⟩⟩,0):=by
  grind [kG,mkLen]
 have d:lC M=some (some ⟨M,[]⟩,0):=by
  grind [lC]
 have f:eD W=some (some ⟨1,List.replicate W 0⟩,0):=by
  grind [eD,mkLen]
 refine ⟨_,by unfold bY;rw [c,d,f];rfl,?_,rfl,rfl,⟨rfl,λu g=>by rw [z8 g]⟩,rfl,rfl⟩;exact {Te:=rfl,hl:=by simp,maps:=rfl,UZ:=rfl,wk:=by simp,UN:=⟨h,b,a⟩,TU:=by omega,UR:=by simp,given:=by simp,UO:=by simp,last:=by simp,UP:=by simp,Uq:=by simp,Vm:=λe l=>by grind,Ub:=o4,len:=by simp,prog:=λp x i=>by simp [jz] at i,held:=rfl,Vu:=o4,UU:=λp=>by simp [jz]}
theorem Ou(f:¬ (1<=h/\h<=4/\0<=e/\e<=4/\1<=x/\x<=4)):bY h e x=some (none,2):=by
 unfold bY kG lC eD;by_cases g:1<=h/\h<=4
 ·have c:mkLen h 16=some h.toNat:=by unfold mkLen;rw [d7 ⟨by omega,by omega⟩]
  rw [d8 (by simp;omega),c];by_cases d:0<=e/\e<=4
  ·rw [d8 (by simp;omega)];rw [d7 (by simp;omega)];rfl
  ·rw [d7 (by simp;omega)];by_cases b:1<=x/\x<=4
   ·have a:mkLen x 8=some x.toNat:=by unfold mkLen;rw [d7 ⟨by omega,by omega⟩]
    rw [d8 (by simp;omega),a];rfl
   ·rw [d7 (by simp;omega)];rfl
 ·rw [d7 (by simp;omega)];by_cases d:0<=e/\e<=4
  ·rw [d8 (by simp;omega)];by_cases b:1<=x/\x<=4
   ·have a:mkLen x 8=some x.toNat:=by unfold mkLen;rw [d7 ⟨by omega,by omega⟩]
    rw [d8 (by simp;omega),a];rfl
   ·rw [d7 (by simp;omega)];rfl
  ·rw [d7 (by simp;omega)];by_cases b:1<=x/\x<=4
   ·have a:mkLen x 8=some x.toNat:=by unfold mkLen;rw [d7 ⟨by omega,by omega⟩]
    rw [d8 (by simp;omega),a];rfl
   ·rw [d7 (by simp;omega)];rfl
open Go.Sx
def oL(maps:Int)(b:List Int):Option (zE×Int):=(dV 2199023255552 b).bind λd=>if d.2.2 !=0 then some (d.1,d.2.2) else
 (vx 2199023255552 d.1).bind λj=>if j.2 !=0 then some (d.1,j.2) else some (d.1,if d.1.Maps.any (λx=>decide (maps<=x)) then 41 else 0)
theorem GM(maps:Int)(c:l.length<=140737488355328):OK (oL maps l) (λv=>v.2=0->ut v.1.Maps/\(∀x∈v.1.Maps,x<maps)/\v.1.Code.length<=64):=by
 unfold oL;have a:=JB c;refine d6 a (λd f=>d5 (λh=>b9 (λe=>absurd e (by simpa using h))) (λh=> ?_));have b:=f (by simpa using h);refine d6 (Lp d.1) (λj _=>d5 (λh=>b9 (λe=>absurd e (by simpa using h))) (λ_=>b9 (λe=>⟨b.1,λx g=> ?_,b.2⟩)))
 grind
def added(r:zb)(m:zE):zb:={r with Ue:=⟨r.Ue.maps,mput r.Ue.held (r.given+1) m.Maps⟩,given:=r.given+1,Tl:=mput r.Tl (r.given+1) ⟨m,0⟩}
theorem uC(h:fJ H M W n r):jz r.Tl (r.given+1)=none:=by
 cases a:jz r.Tl (r.given+1) with
 |none=>rfl
 |some x=>have:=(h.prog _ _ a).2.1;omega
theorem FR(h:fJ H M W n r)(p:Int):jz r.Ue.held p=(jz r.Tl p).map (·.module.Maps):=by rw [h.held];exact LF (λ(x:zU)=>x.module.Maps) _ _
theorem Ov(r:zb)(d:zE×Int×Int):OK (jM (ab r d) (λ(s:Unit)=>(.inl ())) d.1.Maps.length 0 ()) (λo=>match o with|.inl _=>∀x∈d.1.Maps,x<r.maps|.inr q=>q=(0,41,r)/\¬ ∀x∈d.1.Maps,x<r.maps):=by
 refine i7 (λi _=>∀x∈d.1.Maps.take i,x<r.maps) (by simp) ?_ ?_
 ·intro i s a e g k;unfold ab;refine g9 (j4 e (λx b=>d5 (λc=>b9 ⟨rfl,λh=> ?_⟩) (λc=>k _ ?_)))
  ·have:=h x (zmg b);simp at c;omega
  ·intro y f;rw [eM b] at f
   grind
 grind
theorem Ow(h:fJ H M W n r)(b:oL r.maps l=some B)(e:B.2=0->ut B.1.Maps/\(∀x∈B.1.Maps,x<r.maps)/\B.1.Code.length<=64):
  jq 2199023255552 r l=some (if B.2≠0 then (0,B.2,r) else if 16<=r.Tl.length then (0,40,r) else (r.given+1,0,added r B.1)):=by
 unfold oL at b;unfold jq;cases i:dV 2199023255552 l with
 |none=>rw [i] at b;simp at b
 |some d=>
  rw [i] at b;simp only [zbs] at b |-;by_cases s:d.2.2=0
  ·rw [d8 (by simp [s])] at b |-;cases k:vx 2199023255552 d.1 with
   |none=>rw [k] at b;simp at b
   |some j=>
    rw [k] at b;simp only [zbs] at b |-;by_cases f:j.2=0
    ·rw [d8 (by simp [f])] at b |-;simp only [i8] at b;obtain ⟨o,t,z⟩:=Ov r d;rw [t];simp only [zbs];cases o with
     |inr q=>
      grind
     |inl u=>
      have:d.1.Maps.any (λx=>decide (r.maps<=x))=false:=by
       grind
      rw [this] at b;subst b;have a:=e rfl;simp only;by_cases hl:16<=r.Tl.length
      ·grind
      ·rw [d8 (by simp;omega)];have v:=h.UR;have w:=h.given;have A:=h.TU;have y:w64 (r.given+1)=r.given+1:=gy (by omega) (by omega);have g:goodM r.Ue.maps d.1.Maps:=⟨a.1.2.1,λm p=>⟨(a.1.1 m p).1,by rw [h.UZ,<- h.maps];exact a.2.1 m p⟩⟩
       have c:jz r.Ue.held (r.given+1)=none:=by grind [FR,uC]
       rw [y,Om _ _ _ (by have:d.1.Maps.length<=4:=a.1.2.2;omega),d7 g,c];simp [hl,added]
    grind
  grind
theorem Jg(h:fJ H M W n r)(d:n+1<=1000000000)(hl:¬ 16<=r.Tl.length)(a:ut m.Maps/\(∀x∈m.Maps,x<M)/\m.Code.length<=64):fJ H M W (n+1) (added r m):=by
 have c:=uC h;have f:=h.UR;have g:=h.given;refine {Te:=h.Te,hl:=h.hl,maps:=h.maps,UZ:=h.UZ,wk:=h.wk,UN:=h.UN,TU:=d,UR:=by simp [added];omega,given:=by simp [added];omega,UO:=h.UO,last:=by have:=h.last;simp [added];omega,UP:=h.UP,Uq:=by have:=h.Uq;simp [added];omega,Vm:=h.Vm,Ub:=h.Ub.mput c,len:= ?_,prog:= ?_,held:= ?_,Vu:=h.Vu,UU:= ?_}
 ·grind [LA,added]
 ·intro p x b;simp only [added,uB] at b |-;split at b
  ·rename_i e
   cases b
   exact ⟨by omega,by omega,a.1,a.2.1,a.2.2,by simp,by have:=h.UP;simp;omega⟩
  ·have:=h.prog p x b
   grind
 ·simp only [added];have i:jz r.Ue.held (r.given+1)=none:=by grind [FR]
  rw [AQ c,AQ i,h.held];simp
 ·intro p;rw [show (added r m).waiting=r.waiting from rfl,h.UU p]
  grind [added,uB]
def GN(r:zb)(t:zz):zb:={r with Tk:=t}
theorem CG(h:fJ H M W n r)(a:n+1<=1000000000)(b:C.Te.length=H)(c:0<=C.Ty.last)(d:C.Ty.last<=n+1):fJ H M W (n+1) (GN r C):=
 {h.mono (n':=n+1) (by omega) a with hl:=b,UO:=c,last:=by simp [GN];omega}
theorem oM{g:Type}{l:List g}(h:0<=e)(a:e<l.length):∃x,idx l e=some x/\l[e.toNat]? =some x:=by
 have hl:e.toNat<l.length:=by omega
 refine ⟨l[e.toNat],?_,zeg hl⟩;unfold idx
 grind
theorem wQ(h:fJ H M W n r)(a:0<=e)(f:e<H):xu r.Tk e v=some (r.Tk.Ty.last+1,0,⟨⟨r.Tk.Ty.last+1⟩,r.Tk.Te.set e.toNat ⟨r.Tk.Ty.last+1,v⟩⟩):=by
 have g:=h.TU;have b:=h.UO;have c:=h.last;unfold xu aA ba;rw [gy (by omega) (by omega)];obtain ⟨x,d,_⟩:=oM (l:=r.Tk.Te) a (by rw [h.hl];omega);simp [d]
structure CH (r:zb) (k p:Int) (q:Int×Int×zb):Prop where
 no:q.2.1≠0->q.1=0/\q.2.2=r
 yes:q.2.1=0->q.1=r.Tk.Ty.last+1/\(∃x,jz r.Tl p=some x/\x.TH=0)/\∃l,l=r.Tk.Te.set k.toNat ⟨r.Tk.Ty.last+1,p⟩/\q.2.2=GN r ⟨⟨r.Tk.Ty.last+1⟩,l⟩
 VE:0<=k->k<r.Te->jz r.Tl p=none->q.1=0/\q.2.1=41
theorem GR(h:fJ H M W n r)(a:0<=e)(b:e<H):OK (vV r.Tk e v) (λq=>(q.2.1≠0/\q.1=0/\q.2.2=r.Tk)\/(q.2.1=0/\q.1=r.Tk.Ty.last+1/\∃l,l=r.Tk.Te.set e.toNat ⟨r.Tk.Ty.last+1,v⟩/\q.2.2=⟨⟨r.Tk.Ty.last+1⟩,l⟩)):=by
 unfold vV jf jg;obtain ⟨x,c,_⟩:=oM (l:=r.Tk.Te) a (by rw [h.hl];omega);simp only [zbs,c,wQ h a b];refine d5 (λ_=>b9 (.inl ⟨by simp,rfl,rfl⟩)) (λ_=>d5 (λ_=>b9 (.inl ⟨by simp,rfl,rfl⟩)) (λ_=>b9 (.inr ⟨rfl,rfl,_,rfl,rfl⟩)))
theorem LI(h:fJ H M W n r)(a:0<=e)(b:e<H):OK (bz r.Tk e v) (λq=>(q.2.1≠0/\q.1=0/\q.2.2=r.Tk)\/(q.2.1=0/\q.1=r.Tk.Ty.last+1/\∃l,l=r.Tk.Te.set e.toNat ⟨r.Tk.Ty.last+1,v⟩/\q.2.2=⟨⟨r.Tk.Ty.last+1⟩,l⟩)):=by
 unfold bz jf jg;obtain ⟨x,c,_⟩:=oM (l:=r.Tk.Te) a (by rw [h.hl];omega);simp only [zbs,c,wQ h a b];refine d5 (λ_=>b9 (.inl ⟨by simp,rfl,rfl⟩)) (λ_=>d5 (λ_=>b9 (.inl ⟨by simp,rfl,rfl⟩)) (λ_=>b9 (.inr ⟨rfl,rfl,_,rfl,rfl⟩)))
theorem uD(h:fJ H M W n r)(k p:Int):OK (jA r k p) (CH r k p):=by
 unfold jA;refine d5 (λb=>b9 ⟨λ_=>⟨rfl,rfl⟩,λe=>by simp at e,λi=>by simp at b;omega⟩) (λi=> ?_);refine d5 (λb=>b9 ⟨λ_=>⟨rfl,rfl⟩,λe=>by simp at e,λ_ j=>by simp at b;omega⟩) (λj=> ?_);have c:0<=k:=by simp at i;omega
 have d:k<H:=by simp [h.Te] at j;omega
 cases m:jz r.Tl p with
 |none=>
  refine j8 rfl ?_;exact b9 ⟨λ_=>⟨rfl,rfl⟩,λe=>by simp at e,λ_ _ _=>⟨rfl,rfl⟩⟩
 |some x=>
  refine o8 rfl ?_;simp only [zbs];refine d5 (λb=>b9 ⟨λ_=>⟨rfl,rfl⟩,λe=>by simp at e,λ_ _ _=>⟨rfl,rfl⟩⟩) (λb=> ?_);refine d6 (GR h c d) (λq o=>b9 ?_);rcases o with ⟨f,g,a⟩|⟨f,g,l,hl,a⟩
  ·exact ⟨λ_=>⟨g,by rw [a]⟩,λe=>absurd e f,λ_ _ s=>by grind⟩
  ·exact ⟨λe=>absurd f e,λ_=>⟨g,⟨x,m,by simpa using b⟩,l,hl,by rw [a];rfl⟩,λ_ _ s=>by grind⟩
theorem Er(h:fJ H M W n r)(k p:Int):OK (jQ r k p) (CH r k p):=by
 unfold jQ;refine d5 (λb=>b9 ⟨λ_=>⟨rfl,rfl⟩,λe=>by simp at e,λi=>by simp at b;omega⟩) (λi=> ?_);refine d5 (λb=>b9 ⟨λ_=>⟨rfl,rfl⟩,λe=>by simp at e,λ_ j=>by simp at b;omega⟩) (λj=> ?_);have c:0<=k:=by simp at i;omega
 have d:k<H:=by simp [h.Te] at j;omega
 cases m:jz r.Tl p with
 |none=>
  refine j8 rfl ?_;exact b9 ⟨λ_=>⟨rfl,rfl⟩,λe=>by simp at e,λ_ _ _=>⟨rfl,rfl⟩⟩
 |some x=>
  refine o8 rfl ?_;simp only [zbs];refine d5 (λb=>b9 ⟨λ_=>⟨rfl,rfl⟩,λe=>by simp at e,λ_ _ _=>⟨rfl,rfl⟩⟩) (λb=> ?_);refine d6 (LI h c d) (λq o=>b9 ?_);rcases o with ⟨f,g,a⟩|⟨f,g,l,hl,a⟩
  ·exact ⟨λ_=>⟨g,by rw [a]⟩,λe=>absurd e f,λ_ _ s=>by grind⟩
  ·exact ⟨λe=>absurd f e,λ_=>⟨g,⟨x,m,by simpa using b⟩,l,hl,by rw [a];rfl⟩,λ_ _ s=>by grind⟩
theorem CH.inv(h:fJ H M W n r)(a:n+1<=1000000000)(b:CH r x v D):fJ H M W (n+1) D.2.2:=by
 by_cases e:D.2.1=0
 ·obtain ⟨_,_,l,hl,c⟩:=b.yes e;rw [c];have d:=h.UO;have f:=h.last;exact CG h a (by rw [hl,k7];exact h.hl) (by simp;omega) (by simp;omega)
 ·rw [(b.no e).2];exact h.mono (by omega) a
end Go.Proofs.YtplmgfkghomelaaGreatDoor
