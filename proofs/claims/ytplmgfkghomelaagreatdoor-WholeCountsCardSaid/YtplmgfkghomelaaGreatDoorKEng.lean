/- Lemmas. -/
import Derived.Test.YtplmgfkghomelaaGreatDoorKSem
import Derived.Test.YtplmgfkghomelaaGreatDoorO1
set_option linter.all false
namespace Go.Proofs.YtplmgfkghomelaaGreatDoor
open Go.Sx
variable {g:Type}{M W H n q n':Nat}{r:zb}{i:zf}{m:zD}{j:zj}{b:List zf}{e x v steps state h:Int}{back k:Nat->Int}{a d:EM}{c:qP}{S:zm}{f:zk}{l:List Int}{o:Option zj}{E:qt}{y:zw}{z:List (Int×g)}{A:g}{B:zD×Int}{C:zx}{D:Int×Int×zb}
theorem Nv(g:uE b)(h:Way b M q)(p:M<q):∀a,qW b q a=true->qW b M a=true\/∃i,b[a]? =some i/\(q:Int)=a-i.D:=by
 intro a j;obtain ⟨c,d,k,u,v,w,x,r,y⟩:=iI g j;by_cases l:qW b M a=true
 ·exact .inl l
 ·right
  refine ⟨c,d,?_⟩;have e:qW b M a=false:=by simpa using l
  obtain ⟨i,m,s⟩:=h;rcases s with ⟨n,o⟩|⟨n,o,f⟩
  ·rcases Int.lt_or_le ((a:Int)-c.D) q with f|f
   ·exfalso
    have:=(xv d k).2 (show (a:Int)-c.D<=M/\M<=a by omega)
    grind
   ·omega
  ·rcases Int.lt_or_le ((a:Int)-c.D) q with t|t
   ·exfalso
    exact g.en M (zes.1 m).1 ⟨i,m,n,o,a,c,q,r,d,k,f,j,e,by omega⟩
   ·omega
theorem H7(g:uE b)(d:Fit b back)(e:M<b.length)(h:Way b M q)(c:M<q)(s:∀a,a≠M->k a=back a)(f:∀i,b[M]? =some i->i.Op=20->q=M+1)(j:∀i,b[M]? =some i->i.Op≠20->k M=back M):
  pot b k q b.length+1<=pot b back M b.length:=by
 refine Fw e (λt l=>NY g d c (Nv g h c) (λa m=> ?_) l);obtain ⟨n,o,p,u,v,w,x,y,z⟩:=iI g m;have r:=d a n o p
 grind
structure Run (m:zD) (j:zj) (M:EM) (p:Nat):Prop where
 Us:M.module=m
 SO:M.SO=p
 lt:p<m.Code.length
 known:At j p M.regs
 u:uh M.regs
 fit:Fit m.Code M.Si
 SJ:∀i,u64 (M.Tn.Tr.SJ i)
 ev:u64 M.SK.A/\u64 M.SK.B
structure BM (m:zD) (j:zj):Prop where
 TU:uE m.Code
 goodM:tU m.Maps
 up:Gr m m.Code.length j
 snd:Snd m m.Code.length j
theorem Ae(h:i.B=8\/(0<=i.B/\i.B<8)):ii a i=some (Eh i a.regs):=by
 grind [ii,Eh,Gp]
theorem Nw(h:∀i,u64 (c.SJ i))(t:Int):OK (xH c t) (λr=>u64 r.1):=by
 unfold xH;refine d5 (λ_=>b9 ⟨by simp,by simp⟩) (λa=> ?_)
 grind [ain,b9]
theorem KA(h:∀i,u64 (c.SJ i))(t:Int)(a:u64 v):OK (xq c t v) (λr=>∀i,u64 (r.2.SJ i)):=by
 unfold xq;refine d5 (λ_=>b9 h) (λb=> ?_)
 grind [ain,b9,u64,aset]
theorem Nx(C:jo)(t:Int):OK (jX C t) (λr=>u64 r.1):=by
 unfold jX;refine d5 (λ_=>b9 ⟨by simp,by simp⟩) (λh=> ?_)
 grind [ain,b9,u64,aset,xc]
structure Ran (m:zD) (i:zf) (p:Nat) (M:EM) (r:Int×EM):Prop where
 Us:r.2.module=M.module
 st:r.2.state=M.state
 ev:r.2.SK=M.SK
 SJ:∀i,u64 (r.2.Tn.Tr.SJ i)
 step:∃q:Nat,w64 (M.SO+r.1)=q/\Stp i p M.regs q r.2.regs/\(i.Op≠20->r.2.Si=M.Si/\p<q)/\
  (i.Op=20->(q=p+1/\r.2.Si=aset M.Si p 0)\/((q:Int)=p-i.D/\M.Si p<i.Tm/\r.2.Si=aset M.Si p (M.Si p+1)))
theorem PR(Q:BM m j)(h:Run m j a W)(l:m.Code[W]? =some i)(T:i.Op≠21)(U:i.Op≠22):OK (Cg a i) (Ran m i W a):=by
 have n:=Q.TU;have hn:=n.UE;have c:=n.TA.right l;have V:=nj c;have N:=ox c;have hp:=h.lt;have X:=h.SO;have one:w64 (a.SO+1)=((W+1:Nat):Int):=by grind [qo]
 have g:ain 8 i.A=some i.A.toNat:=Gp N.1 N.2;have p:¬ (15<=i.Op/\i.Op<=20)->ain 8 i.D=some i.D.toNat:=λh=>Gp (ow c h).1 (ow c h).2
 have plain:∀{R:Nat->Int} {S:zm},i.Op≠20->(∀t,u64 (S.Tr.SJ t))->Stp i W a.regs (W+1) R->Ran m i W a (1,{a with Tn:=S,regs:=R}):=
  λd Y Z=>⟨rfl,rfl,rfl,Y,W+1,one,Z,λ_=>⟨rfl,by omega⟩,λe=>absurd e d⟩
 unfold Cg;refine d5 (λe=> ?_) (λe0=> ?_)
 ·have e:i.Op=0:=by simpa using e
  rw [Ae (bE c (.inl (by omega))),p (by omega)];exact b9 (plain (by omega) h.SJ (.set e))
 refine d5 (λe=> ?_) (λw=> ?_)
 ·have e:i.Op=11:=by simpa using e
  rw [Ae (bE c (.inl (by omega)))];simp only [zbs];refine d6 (Nw h.SJ _) (λv y=> ?_);rw [p (by omega)];exact b9 (plain (by omega) h.SJ (.any v.1 (.inl e) y))
 refine d5 (λe=> ?_) (λz=> ?_)
 ·have e:i.Op=12:=by simpa using e
  rw [g,Ae (bE c (.inl (by omega)))];simp only [zbs];exact d6 (KA h.SJ _ (h.u _ (by omega))) (λv y=>b9 (plain (by omega) y (.store e)))
 refine d5 (λe=> ?_) (λC=> ?_)
 ·have e:i.Op=13:=by simpa using e
  rw [p (by omega)];simp only [zbs];refine d5 (λ_=>b9 ?_) (λ_=>b9 (plain (by omega) h.SJ (.any _ (.inr e) h.ev.1)))
  have:aset (aset a.regs i.D.toNat a.SK.A) i.D.toNat a.SK.B=aset a.regs i.D.toNat a.SK.B:=by
   grind [aset]
  rw [this];exact plain (by omega) h.SJ (.any _ (.inr e) h.ev.2)
 refine d5 (λe=> ?_) (λE=> ?_)
 ·have e:i.Op=14:=by simpa using e
  have F:=oy c e;rw [p (by omega),xY (x:=i.Tm) F.1 (by omega)];exact b9 (plain (by omega) h.SJ (.map e))
 refine d5 (λe=> ?_) (λG=> ?_)
 ·have e:i.Op=15:=by simpa using e
  have hl:(ju i).2.1=true:=by grind [cz]
  have b:=n.TA.leads l hl;rw [cz c (by omega) (by omega)] at b;simp only at b;have hJ:=rR (i:=i) (by grind [eE,inB]);obtain ⟨q,hq⟩:=zof b.1;refine b9 ⟨rfl,rfl,rfl,h.SJ,q,?_,.jump q e (by omega),λ_=>⟨rfl,by omega⟩,λO=>by omega⟩
  grind [w64,qo]
 refine d5 (λe=> ?_) (λI=> ?_)
 ·have e:i.Op=20:=by simpa using e
  have hlp:=n.TA.loop l e;have P:=h.fit W i l e;have r:ain 64 a.SO=some W:=by grind [Qa]
  rw [g,r];simp only [zbs];refine d6 (R:=λo=>o=true->a.Si W<i.Tm) (d5 (λ_=>b9 (λh=>yd h)) (λ_=>b9 (λh=>by cases h))) (λo k=> ?_);refine d5 (λJ=>b9 ?_) (λ_=>b9 ?_)
  ·have K:=k J;refine ⟨rfl,rfl,rfl,h.SJ,((W:Int)-i.D).toNat,?_,.back _ e (by omega),λd=>absurd e d,λ_=>.inr ⟨by omega,K,?_⟩⟩
   ·grind [w64,qo]
   grind [aset,w64,qo]
  ·exact ⟨rfl,rfl,rfl,h.SJ,W+1,one,.on e,λd=>absurd e d,λ_=>.inl ⟨rfl,rfl⟩⟩
 simp only [beq_eq_false_iff_ne,ne_eq] at e0 w z C E G I;have s:i.B=8\/(0<=i.B/\i.B<8):=bE c (by omega);have L:=AM h.u s;have M:=h.u i.A.toNat (by omega);rw [g,Ae s];simp only [zbs];rw [AJ M L];simp only [zbs];refine d5 (λk=> ?_) (λk=> ?_)
 ·simp at k;rw [p (by omega)];exact b9 (plain (by omega) h.SJ (.arith k.1 k.2))
 ·have f:16<=i.Op/\i.Op<=19:=by
   rw [Bool.and_eq_false_iff] at k
   grind
  rw [FD];simp only [zbs];have hl:(ju i).2.1=true:=by grind [cz]
  have b:=n.TA.leads l hl;rw [cz c (by omega) (by omega)] at b;simp only at b;have hJ:=rR (i:=i) (by grind [eE,inB]);obtain ⟨q,hq⟩:=zof b.1;refine d5 (λJ=>b9 ?_) (λhf=>b9 ?_)
  ·refine ⟨rfl,rfl,rfl,h.SJ,q,?_,.yes q f.1 f.2 J (by omega),λ_=>⟨rfl,by omega⟩,λO=>by omega⟩
   grind [w64,qo]
  ·exact ⟨rfl,rfl,rfl,h.SJ,W+1,one,.no f.1 f.2 hf,λ_=>⟨rfl,by omega⟩,λO=>by omega⟩
theorem Af{r:Nat->Int}(f:xb i=true)(g:b[M]? =some i)(h:Stp i M k q r)(d:i.Op=20->q=M+1):Way b M q:=by
 have on:(ju i).2.2=true->Way b M (M+1):=λh=>⟨i,g,.inl ⟨h,rfl⟩⟩
 have p:¬ (15<=i.Op/\i.Op<=20)->i.Op≠22->(ju i).2.2=true:=λl m=>by grind [wJ]
 have j:∀{q:Nat},15<=i.Op->i.Op<=19->(q:Int)=M+(i.D+1)->Way b M q:=λ{q}l m t=>by
  have:=rR (i:=i) (by grind [eE,inB]);exact ⟨i,g,.inr ⟨by grind [cz],by grind [cz],by grind [cz]⟩⟩
 cases h with
 |set e=>exact on (p (by omega) (by omega))
 |arith a c=>exact on (p (by omega) (by omega))
 |any v e n=>exact on (p (by omega) (by omega))
 |store e=>exact on (p (by omega) (by omega))
 |map e=>exact on (p (by omega) (by omega))
 |jump q a c=>exact j (by omega) (by omega) c
 |yes q a c o s=>exact j (by omega) (by omega) s
 |no a c o=>exact on (by grind [cz])
 |back q a c=>rw [d a];exact on (by rw [pz f a])
 |on e=>exact on (by rw [pz f e])
 |call v e n=>exact on (p (by omega) (by omega))
def PS(m:zD)(j:zj)(M a:EM)(p:Nat):Prop:=∃q,Run m j a q/\pot m.Code a.Si q m.Code.length+1<=pot m.Code M.Si p m.Code.length/\
 ∃i,m.Code[p]? =some i/\((ju i).2.1=true/\(q:Int)=p+(ju i).1\/(ju i).2.2=true/\(q:Int)=p+1)
theorem Way.to(h:Way b M q):∃i,b[M]? =some i/\((ju i).2.1=true/\(q:Int)=M+(ju i).1\/(ju i).2.2=true/\(q:Int)=M+1):=by
 obtain ⟨i,a,h|h⟩:=h
 ·grind
 grind
theorem Fe(y:BM m j)(h:Run m j d W)(k:m.Code[W]? =some i){r:Int×EM}(w:Ran m i W d r):
  PS m j d ⟨r.2.SK,r.2.module,r.2.Tn,r.2.regs,r.2.Si,w64 (d.SO+r.1),steps,state⟩ W:=by
 have o:=y.TU;have g:=o.TA.right k;obtain ⟨q,I,f,p,z⟩:=w.step;have s:=y.snd.step W i _ h.lt k h.known.1 h.known.2.choose_spec.1 d.regs q r.2.regs h.u h.known.2.choose_spec.2 f
 have B:q<m.Code.length:=by
  have:=(zes.1 s.1).1;rw [y.up.ji.Uh] at this;exact this
 have base:Fit m.Code r.2.Si->Run m j ⟨r.2.SK,r.2.module,r.2.Tn,r.2.regs,r.2.Si,w64 (d.SO+r.1),steps,state⟩ q:=
  λJ=>⟨by rw [<- h.Us];exact w.Us,I,B,s,f.u64s g h.u,J,w.SJ,by show u64 r.2.SK.A/\_;rw [w.ev];exact h.ev⟩
 by_cases c:i.Op=20
 ·have K:=o.TA.loop k c;have G:=h.fit W i k c;rcases z c with ⟨rfl,l⟩|⟨C,n,l⟩
  ·refine ⟨W+1,base ?_,?_,(Af g k f (λ_=>rfl)).to⟩
   ·intro a D v x;rw [l];unfold aset;split
    ·grind
    ·exact h.fit a D v x
   ·show pot m.Code r.2.Si _ _+1<=_;refine H7 o h.fit h.lt (Af g k f (λ_=>rfl)) (by omega) (λa v=> ?_) (λ_ _ _=>rfl) (λL E p=> ?_)
    ·rw [l];unfold aset;rw [d7 v]
    grind
  ·refine ⟨q,base ?_,?_,i,k,.inl (by grind [pz])⟩
   ·intro a D v x;rw [l];unfold aset;split
    ·grind
    ·exact h.fit a D v x
   ·show pot m.Code r.2.Si _ _+1<=_;refine Fw h.lt (λt F=>K2 o h.fit k c C ?_ (λb M=> ?_) n F)
    ·rw [l];unfold aset;rw [d8 rfl]
    ·rw [l];unfold aset;rw [d7 M]
 ·obtain ⟨l,n⟩:=p c;refine ⟨q,base (by rw [l];exact h.fit),?_,(Af g k f (λe=>absurd e c)).to⟩
  show pot m.Code r.2.Si _ _+1<=_;refine H7 o h.fit h.lt (Af g k f (λe=>absurd e c)) n (λa _=>by rw [l]) (λL E x=> ?_) (λ_ _ _=>by rw [l])
  grind
theorem H8:∀k:Fin 7,∃s,dd ((k:Nat):Int)=some (s,true)/\s.Uf=decide ((k:Nat)<=4)/\0<=s.most/\(((k:Nat)=0\/(k:Nat)=4\/(k:Nat)=5)->s.most=18446744073709551615)/\(((k:Nat)=1\/(k:Nat)=2\/(k:Nat)=3)->s.most=1)/\((k:Nat)<=4->0<=s.asks/\s.asks<5):=by
 intro k;have h:∀k:Fin 7,((dd ((k:Nat):Int)).map (λr=>r.2&&(r.1.Uf==decide ((k:Nat)<=4))&&decide (0<=r.1.most)&&(!(decide ((k:Nat)=0)||decide ((k:Nat)=4)||decide ((k:Nat)=5))||r.1.most==18446744073709551615)&&(!(decide ((k:Nat)=1)||decide ((k:Nat)=2)||decide ((k:Nat)=3))||r.1.most==1)&&(!decide ((k:Nat)<=4)||(decide (0<=r.1.asks)&&decide (r.1.asks<5)))))=some true:=by decide+kernel
 obtain ⟨⟨s,b⟩,a,c⟩:=yf.1 (h k)
 grind
theorem tv(c:BM m j)(h:Run m j a W)(d:m.Code[W]? =some i)(f:i.Op=21)(g:∀s,dd i.Tm=some (s,true)->0<=v/\v<=s.most)(b:∀t,u64 (S.Tr.SJ t)):
  PS m j a ⟨a.SK,a.module,S,aset a.regs 0 v,a.Si,w64 (a.SO+1),steps,state⟩ W:=by
 have l:=c.TU.UE;have k:=h.lt
 have:=Fe c h d (r:=(1,{a with Tn:=S,regs:=aset a.regs 0 v})) (steps:=steps) (state:=state)
  ⟨rfl,rfl,rfl,b,W+1,by show w64 (a.SO+1)=_;rw [h.SO,qo (by omega) (by omega)];simp,.call v f g,λ_=>⟨rfl,by omega⟩,λe=>by omega⟩
 exact this
inductive tw (m:zD) (j:zj) (M:EM) (p:Nat) (i:zf) (r:qT×EM):Prop
 |ends:i.Op=22->r.1.Sm=4->r.2.state=2->Run m j r.2 p->tw m j M p i r
 |asks:i.Op=21->i.Tm<=4->r.1.Sm=2->r.2.state=1->Run m j r.2 p->r.2.Si=M.Si->(r.1.Item.Tc∈m.Maps/\0<=r.1.Item.Op/\r.1.Item.Op<5)->tw m j M p i r
 |goes:r.1.Sm=1\/r.1.Sm=3->r.2.state=0->PS m j M r.2 p->tw m j M p i r
theorem KB(c:BM m j)(h:Run m j a W)(A:a.state=0)(g:m.Code[W]? =some i):OK (tV 2199023255552 a) (λr=>tw m j a W i r/\r.1.Pc=W):=by
 have N:=c.TU;have k:=N.TA.right g;have J:=ox k
 have B:idx a.module.Code a.SO=some i:=by
  rw [h.Us,h.SO];obtain ⟨x,O,P⟩:=aS h.lt
  grind
 have b:∀{steps state:Int},Run m j {a with steps:=steps,state:=state} W:=⟨h.Us,h.SO,h.lt,h.known,h.u,h.fit,h.SJ,h.ev⟩
 unfold tV;refine d5 (λe=>by grind) (λ_=>d5 (λe=>by grind) (λ_=> ?_));rw [B];simp only [zbs];refine d5 (λe=> ?_) (λd=> ?_)
 ·have e:i.Op=21:=by simpa using e
  have C:=mF k e;obtain ⟨n,K⟩:=zof C.1;obtain ⟨L,Q,T,Z,U,s5,V⟩:=H8 ⟨n,by omega⟩;have p:dd i.Tm=some (L,true):=by rw [K];exact Q
  have q:L.Uf=decide (n<=4):=T;refine d6 (R:=λr=>tw m j a W i r/\r.1.Pc=W) ?_ (λx y=>b9 y);unfold AA mu;simp only [p,zbs];refine d5 (λt=> ?_) (λt=> ?_)
  ·have X:n<=4:=by rw [q] at t;exact yd t
   obtain ⟨w,x,y,D⟩:=h.known;have Y:=c.snd.Uq W i x h.lt g w y e (by omega);have hm:=(D 1 (by omega)).2 Y;have hw:=c.up.ji.wt W x y 1 (by omega)
   have hb:0<=(x 1).Tc/\(x 1).Tc<m.Maps.length:=by
    rcases hw with hw|hw|hw
    ·grind [pp]
    ·omega
    ·exact hw.2.2
   rw [h.Us];refine f9 (OK.get (by grind) (by grind) (λmp E=> ?_));obtain ⟨l,hl,_⟩:=D7 ⟨n,by omega⟩;have F:xT 2199023255552 i.Tm=some l:=by rw [K];exact hl
   rw [F];simp only [zbs];refine d6 (R:=λ_=>True) (d5 (λ_=>b9 trivial) (λ_=>b9 trivial)) (λv _=>b9 ⟨.asks e (by omega) rfl rfl ?_ rfl ⟨zmg E,V X⟩,h.SO⟩);have:=b (steps:=w64 (a.steps+1)) (state:=1);rw [h.Us] at this;exact this
  ·have h5:n=5\/n=6:=by rw [q] at t;have:=yv t;omega
   refine d6 (R:=λo=>(o.2.Sm=1\/o.2.Sm=3)/\o.2.Pc=(W:Int)/\o.1.state=0/\PS m j a ⟨o.1.SK,o.1.module,o.1.Tn,o.1.regs,o.1.Si,w64 (o.1.SO+1),o.1.steps,o.1.state⟩ W) ?_ (λo z=>b9 ⟨.goes z.1 z.2.2.1 z.2.2.2,z.2.1⟩);refine d5 (λG=> ?_) (λG=>b9 ⟨.inr rfl,h.SO,A,tv c h g e (λs I=> ?_) h.SJ⟩)
   ·have G:n=5:=by
     grind
    refine d6 (Nx _ _) (λv M=>b9 ⟨.inl rfl,h.SO,A,tv c h g e (S:=⟨a.Tn.Tr,v.2.2⟩) (λs I=> ?_) h.SJ⟩);rw [p] at I;cases I;have:=U (.inr (.inr G));exact ⟨M.1,by have:=M.2;omega⟩
   grind
 refine d5 (λe=> ?_) (λf=> ?_)
 ·have e:i.Op=22:=by simpa using e
  rw [Gp J.1 J.2];exact b9 ⟨.ends e rfl rfl b,h.SO⟩
 have d:i.Op≠21:=by simpa using d
 have f:i.Op≠22:=by simpa using f
 refine d6 (PR c (b (steps:=w64 (a.steps+1)) (state:=a.state)) g d f) (λr k=>b9 ⟨.goes (.inl rfl) (by show r.2.state=0;rw [k.st];exact A) ?_,h.SO⟩)
 exact Fe c (b (steps:=w64 (a.steps+1)) (state:=a.state)) g k
theorem KC(b:u64 f.Tp):OK (gG h f) (λv=>u64 v/\(h=1\/h=2\/h=3->v<=1)):=by
 unfold gG;refine d6 (R:=λo=>o=true↔h=0\/h=4) ?_ (λo c=> ?_)
 ·refine d5 (λe=>b9 ?_) (λe=>b9 ?_)
  ·grind
  grind
 refine d5 (λe=>b9 ⟨b,λd=>by grind⟩) (λ_=> ?_);refine d6 (R:=λ_=>True) (d5 (λ_=>b9 trivial) (λ_=>b9 trivial)) (λo _=> ?_);have z:u64 0/\(h=1\/h=2\/h=3->(0:Int)<=1):=⟨⟨by simp,by simp⟩,λ_=>by simp⟩
 have a:u64 1/\(h=1\/h=2\/h=3->(1:Int)<=1):=⟨⟨by simp,by simp⟩,λ_=>by simp⟩
 exact d5 (λ_=>d5 (λ_=>b9 a) (λ_=>b9 z)) (λ_=>d5 (λ_=>d5 (λ_=>b9 a) (λ_=>b9 z)) (λ_=>b9 z))
theorem H9(k:BM m j)(h:Run m j a W)(D:a.state=1)(l:m.Code[W]? =some i)(o:i.Op=21)(E:i.Tm<=4)(b:u64 f.Tp):
  OK (mH a f) (λr=>r.1=0/\r.2.state=0/\PS m j a r.2 W):=by
 have t:=k.TU.TA.right l;have c:=mF t o
 have d:idx a.module.Code a.SO=some i:=by
  rw [h.Us,h.SO];obtain ⟨x,u,w⟩:=aS h.lt
  grind
 unfold mH;refine d5 (λe=>by grind) (λ_=> ?_);rw [d];simp only [zbs];refine d6 (KC b) (λv p=>b9 ⟨rfl,rfl,tv k h l o (λs q=> ?_) h.SJ⟩);obtain ⟨n,y⟩:=zof c.1;obtain ⟨z,A,F,G,I,J,K⟩:=H8 ⟨n,by omega⟩;have g:dd i.Tm=some (z,true):=by rw [y];exact A
 rw [g] at q;cases q;have B:=p.1.1;have C:=p.1.2
 grind
theorem Ny(h:l.length*8<=140737488355328):je l=some l:=by
 grind [je,room]
theorem Nz(h:b.length*40<=140737488355328):zS b=some b:=by
 grind [zS,room]
theorem mz(m:zD):∃o p e,jW 2199023255552 m=some (o,p,e)/\((e≠0/\o=none)\/(e=0/\p=0/\∃j,o=some j/\BM m j)):=by
 obtain ⟨⟨o,p,e⟩,f,g⟩:=Cf m;refine ⟨o,p,e,f,?_⟩;by_cases h:e=0
 ·subst h;obtain ⟨j,i,a,b,c,d⟩:=QJ (Cp m) f rfl;exact .inr ⟨rfl,(g.TU rfl).1,j,i,⟨a,b,c,d⟩⟩
 ·exact .inl ⟨h,g.bad h⟩
theorem Ag(h:jW 2199023255552 m=some (o,x,e)):vr 2199023255552 m=some (x,e):=by
 unfold vr;rw [h];cases o<;>rfl
def Ms(m:zD)(E:qt)(C:jo):EM:=⟨E,m,⟨⟨λ_=>0⟩,C⟩,λ_=>0,λ_=>0,0,0,0⟩
theorem RF(h:BM m j)(c:u64 E.A/\u64 E.B)(C:jo):Run m j (Ms m E C) 0:=by
 have b:=h.TU.n1;refine ⟨rfl,rfl,b,h.snd.zero _ (λr _=>⟨by simp [Ms],by simp [Ms]⟩),λr _=>⟨by simp [Ms],by simp [Ms]⟩,λa i d e=> ?_,λt=>⟨by simp [Ms],by simp [Ms]⟩,c⟩
 ·have:=h.TU.TA.loop d e
  grind [Ms]
open Go.Sx
def Qn(b:List Int)(r:Int×Int×Int):Prop:=0<=r.1/\0<=r.2.1/\r.2.1<=b.length
theorem gt(h: -9223372036854775808<=x)(a:x<9223372036854775808):w64 x=x:=qo h (by omega)
theorem MH(j:l.length<=140737488355328):OK (pT l) (Qn l):=by
 unfold pT;refine d6 (g9 (Q:=λo=>match o with|.inl _=>True|.inr r=>Qn l r) (λi s=>i<=9/\0<=s) ⟨by omega,by omega⟩ (λi s a b c k=> ?_) (λs c=>trivial)) (λo d=> ?_)
 ·unfold wo;refine i7 b (λx m=> ?_) |> f9
  refine d5 (λ_=>b9 ⟨by simp,by simp,by simp⟩) (λn=> ?_);have e:w64 (7*(i:Int))=7*(i:Int):=gt (by omega) (by omega);rw [e,fA (by omega)];simp only [zbs];have h:=Cq s (wO .u64 (xW (wN .u8 x 127)) (7*(i:Int)));refine d5 (λf=>b9 ⟨h.1,?_,?_⟩) (λg=>k _ ⟨?_,h.1⟩)
  ·grind [gt]
  ·grind [gt]
  grind
 ·cases o with
  |inl _=>exact b9 ⟨by simp,by simp,by simp⟩
  |inr r=>exact b9 d
theorem Ji(a:l.length<=140737488355328):OK (kD l) (λr=>0<=r.2.1/\r.2.1<=l.length):=by
 unfold kD;refine d6 (MH a) (λr h=>b9 ⟨h.2.1,h.2.2⟩)
structure RI (b:List Int) (r:zw):Prop where
 eb:r.b=b
 lo:0<=r.SO
 hi:r.SO<=b.length+1
 ok:r.e=0->r.SO<=b.length
theorem oC{b:List Int}{r:zw}(h:RI b r)(a:e≠0):OK (qC r e) (λc=>RI b c/\c.e≠0):=by
 unfold qC;refine d5 (λ_=>b9 ⟨{h with ok:=λd=>absurd d a},a⟩) (λf=>b9 ⟨h,by simpa using f⟩)
theorem LC(u:l.length<=140737488355328):OK (aJ 2199023255552 ⟨l,0,0,0⟩) (RI l):=by
 unfold aJ;refine d6 (OK.rounds (Q:=RI l) (RI l) (λs=>(3-s.SO).toNat) ?_ 2199023255552 _ ⟨rfl,by simp,by simp;omega,λ_=>by simp⟩ (by simp)) (λ_ h=>b9 h);intro s f h k;unfold gq;refine d5 (λj=> ?_) (λ_=>b9 h);simp only [zae,zdq,u4] at j;have m:=h.lo;have v:=h.ok j.2;have n:w64 (s.SO+1)=s.SO+1:=gt (by omega) (by omega);have w:RI l {s with field:=s.SO}:=⟨h.eb,h.lo,h.hi,h.ok⟩
 refine d6 (R:=λo=>o.b=l/\o.SO=s.SO/\(o.e=0->s.SO<l.length)) ?_ (λo a=> ?_)
 ·refine d5 (λp=> ?_) (λq=> ?_)
  ·unfold qC;refine d6 (R:=λo=>o.b=l/\o.SO=s.SO/\o.e≠0) (d5 (λ_=>b9 ⟨h.eb,rfl,show (_:Int)≠0 from (by simp)⟩) (λg=>b9 ⟨h.eb,rfl,by simpa using g⟩)) (λo a=>b9 ⟨a.1,a.2.1,λe=>absurd e a.2.2⟩)
  ·have d:s.SO<l.length:=by
    have e:=h.eb
    grind
   refine f9 (OK.get m (by grind) (λx y=> ?_))
   have i:∃c,uJ (⟨[84,80,1].toArray⟩) s.SO=some c:=by
    have:s.SO=0\/s.SO=1\/s.SO=2:=by omega
    rcases this with e|e|e<;>rw [e]<;>exact ⟨_,rfl⟩
   obtain ⟨c,i⟩:=i;rw [i];simp only [zbs];refine d5 (λ_=> ?_) (λ_=>b9 ⟨h.eb,rfl,λ_=>d⟩);unfold qC;refine d6 (R:=λo=>o.b=l/\o.SO=s.SO/\o.e≠0) (d5 (λ_=>b9 ⟨h.eb,rfl,show (_:Int)≠0 from (by simp)⟩) (λg=>b9 ⟨h.eb,rfl,by simpa using g⟩)) (λo a=>b9 ⟨a.1,a.2.1,λe=>absurd e a.2.2⟩)
 ·obtain ⟨r,t,z⟩:=a;rw [t,n];exact k _ ⟨r,by simp;omega,by simp;omega,λe=>by grind⟩ (by simp;omega)
theorem ip(r:l.length<=140737488355328)(h:RI l y)(j:0<=x)(s:x<1000)(t:e≠0):
  OK (ja y x e) (λp=>RI l p.2/\0<=p.1/\p.1<=x):=by
 unfold ja;refine d5 (λf=>b9 ⟨h,by simp,by simpa using j⟩) (λf=> ?_);have k:y.e=0:=by simpa using f
 have m:=h.lo;have u:=h.ok k;rw [h.eb]
 have a:cut l y.SO (l.length:Int)=some (l.drop y.SO.toNat):=by
  unfold cut;rw [d8 ⟨m,by omega,by omega⟩];simp
 rw [a];simp only [zbs];refine d6 (MH (by simp;omega)) (λg b=> ?_);have d:=b.2.2;have n:=b.2.1;simp only [List.length_drop] at d;have o:w64 (y.SO+g.2.1)=y.SO+g.2.1:=gt (by omega) (by omega);rw [o];have q:RI l ⟨l,y.SO+g.2.1,y.SO,y.e⟩:=⟨rfl,by simp;omega,by simp;omega,λ_=>by simp;omega⟩
 refine d5 (λi=> ?_) (λ_=>d5 (λ_=> ?_) (λc=>b9 ⟨q,?_,?_⟩))
 ·grind [d6,oC,b9]
 ·grind [d6,oC,b9]
 ·have:g.1<=x:=by simpa using c
  rw [gt (by have:=b.1;omega) (by omega)];exact b.1
 ·have:g.1<=x:=by simpa using c
  rw [gt (by have:=b.1;omega) (by omega)];exact this
theorem Jj(i:zf):OK (fK [i]) (λ_=>True):=by
 unfold fK;refine d6 (g9 (Q:=λ_=>True) (λ_ _=>True) trivial (λj s a h _ k=> ?_) (λ_ _=>trivial)) (λo _=> ?_)
 ·unfold mi;refine f9 (i7 h (λx b=> ?_));rw [fz];simp only [zbs];exact d5 (λ_=>b9 trivial) (λ_=>k _ trivial)
 grind [b9]
theorem Ot(i:l.length<=140737488355328)(h:RI l y):OK (bC y) (λp=>RI l p.2):=by
 unfold bC;refine d6 (ip i h (by decide) (by decide) (by decide)) (λa r=> ?_);refine d6 (ip i r.1 (by decide) (by decide) (by decide)) (λc s=> ?_);refine d6 (ip i s.1 (by decide) (by decide) (by decide)) (λd u=> ?_);refine d6 (ip i u.1 (by decide) (by decide) (by decide)) (λf v=> ?_);have j:=v.1;refine d5 (λ_=>b9 j) (λk=> ?_);have w:f.2.e=0:=by simpa using k
 have x:=j.lo;have C:=j.ok w;rw [j.eb]
 have b:cut l f.2.SO (l.length:Int)=some (l.drop f.2.SO.toNat):=by
  unfold cut;rw [d8 ⟨x,by omega,by omega⟩];simp
 rw [b];simp only [zbs];refine d6 (Ji (by simp;omega)) (λg n=> ?_);have m:=n.2;have z:=n.1;simp only [List.length_drop] at m;have A:w64 (f.2.SO+g.2.1)=f.2.SO+g.2.1:=gt (by omega) (by omega);rw [A];have B:∀q,RI l ⟨l,f.2.SO+g.2.1,q,f.2.e⟩:=λq=>⟨rfl,by simp;omega,by simp;omega,λ_=>by simp;omega⟩
 refine d5 (λo=> ?_) (λ_=>d6 (Jj _) (λt _=>d5 (λ_=> ?_) (λ_=>b9 (B _))))
 ·grind [d6,oC,b9]
 grind [d6,oC,b9]
theorem Jk(f:l.length<=140737488355328):OK (dR 2199023255552 l) (λr=>r.2.2=0->tU r.1.Maps/\r.1.Code.length<=64):=by
 unfold dR;refine d6 (LC f) (λF A=> ?_);refine d6 (ip f A (by decide) (by decide) (by decide)) (λn G=> ?_)
 refine d6 (OK.rounds (Q:=λo=>RI l o.1/\(∀x∈o.2,0<=x/\x<4)/\o.2.Nodup/\(o.2.length:Int)<=4)
  (λs=>RI l s.1/\(∀x∈s.2.1,0<=x/\x<4)/\s.2.1.Nodup/\s.2.2=s.2.1.length/\s.2.2<=n.1) (λs=>(n.1-s.2.2).toNat) ?_ 2199023255552 _ ?_ ?_) (λo g=> ?_)
 ·intro s d h k;obtain ⟨i,v,w,B,I⟩:=h;unfold nK;refine d5 (λj=> ?_) (λ_=>b9 ⟨i,v,w,by simp;omega⟩);have C:s.2.2<n.1:=by simpa using j
  refine d6 (ip f i (by decide) (by decide) (by decide)) (λq y=> ?_);rw [tQ];simp only [zbs];refine d6 (R:=λo=>RI l o/\(o.e=0->q.1∉s.2.1)) (d5 (λm=>d6 (oC y.1 (by decide)) (λz p=>b9 ⟨p.1,λe=>absurd e p.2⟩)) (λm=>b9 ⟨y.1,λ_=>by simpa using m⟩)) (λo g=> ?_);refine d5 (λ_=>b9 ⟨g.1,v,w,by simp;omega⟩) (λD=> ?_)
  grind [f9,OK.hasRoom,w64,gt]
 ·grind
 ·grind
 refine d6 (ip f g.1 (by decide) (by decide) (by decide)) (λc j=> ?_);refine d6 (R:=RI l) (d5 (λ_=>d6 (oC j.1 (by decide)) (λz p=>b9 p.1)) (λ_=>b9 j.1)) (λJ v=> ?_);refine d6 (OK.rounds (Q:=λo=>RI l o.1/\(o.2.length:Int)<=64) (λs=>RI l s.1/\s.2.2=s.2.1.length/\s.2.2<=c.1) (λs=>(c.1-s.2.2).toNat) ?_ 2199023255552 _ ?_ ?_) (λu a=> ?_)
 ·intro s d h k;obtain ⟨i,w,B⟩:=h;have E:=j.2.2;unfold nL;refine d5 (λt=> ?_) (λ_=>b9 ⟨i,by simp;omega⟩);simp only [zae,zdq,u4] at t;refine d6 (Ot f i) (λq y=> ?_)
  grind [f9,OK.hasRoom,w64,gt]
 ·grind
 ·grind
 refine d6 (R:=λ_=>True) (d5 (λt=>d6 (oC (b:=l) (r:=⟨u.1.b,u.1.SO,u.1.SO,u.1.e⟩) ⟨a.1.eb,a.1.lo,a.1.hi,a.1.ok⟩ (e:=13) (by decide)) (λz p=>b9 trivial)) (λ_=>b9 trivial)) (λK _=> ?_);refine d5 (λD=>b9 (λh=> ?_)) (λ_=>b9 (λ_=>⟨⟨g.2.1,g.2.2.1,by grind⟩,by grind⟩))
 grind
open Go.Sx
def goodM(k:Int)(a:List Int):Prop:=a.Nodup/\∀m∈a,0<=m/\m<k
theorem goodM.take(h:goodM e l)(i:Nat):goodM e (l.take i):=
 ⟨h.1.sublist (List.take_sublist _ _),λm a=>h.2 m (R5 a)⟩
theorem rl(h:goodM e (l++[x])):0<=x/\x<e/\x∉l:=by
 have a:=h.2 x (by simp);have b:=k7.1 h.1
 grind
theorem eF(h:l[M]? =some x):l.take (M+1)=l.take M++[x]:=by
 rw [x6,h];rfl
theorem IU(p:zY)(d:List Int):OK (jM (fv p d) (λ(s:Unit)=>(.inl ())) d.length 0 ()) (λo=>match o with|.inl _=>goodM p.maps d|.inr r=>r=(2,p)/\¬ goodM p.maps d):=by
 refine g9 (λi _=>goodM p.maps (d.take i)) ⟨by simp,by simp⟩ ?_ ?_
 ·intro i s j v h k;unfold fv;refine f9 (i7 v (λx w=> ?_))
  have f:(goodM p.maps (d.take (i+1))->False)->OK (some (Sum.inr (2,p):Unit⊕(Int×zY))) (λo=>match o with|.inl _=>goodM p.maps d|.inr r=>r=(2,p)/\¬ goodM p.maps d):=
   λq=>b9 ⟨rfl,λc=>q (c.take _)⟩
  have t:=eF w;refine f9 (d5 (λl=>b9 ?_) (λl=>d5 (λn=>b9 ?_) (λn=> ?_)))
  ·simp only [q9];refine f (λc=> ?_);rw [t] at c;have:=rl c;simp at l;omega
  ·simp only [q9];refine f (λc=> ?_);rw [t] at c;have:=rl c;simp at n;omega
  ·rw [Al (by omega)];simp only [zbs,iv];refine b9 ?_;simp only [zdq];split
   ·rename_i u
    refine f (λc=> ?_);rw [t] at c;exact (rl c).2.2 u
   ·rename_i u
    refine k _ ?_;rw [t];simp at l n;refine ⟨k7.2 ⟨h.1,by simp,λa y b q e=> ?_⟩,λm g=> ?_⟩
    ·grind
    ·rcases g8.1 g with g|g
     ·exact h.2 m g
     grind
 grind
theorem Fz(x:List Int)(h:x.length*8<=140737488355328):je x=some x:=by
 grind [je,room]
open Classical in
theorem N6(a:zY)(p:Int)(m:List Int)(h:m.length*8<=140737488355328):
  dv a p m=some (if goodM a.maps m then (if (jA a.held p).isSome then (42,a) else (0,⟨a.maps,mput a.held p m⟩)) else (2,a)):=by
 obtain ⟨o,b,c⟩:=IU a m
 grind [dv,jA,Fz]
def mdels{g:Type}(m:List (Int×g)):List Int->List (Int×g)
 |[]=>m
 |p::r=>mdels (mdel m p) r
theorem wG(m:List (Int×g))(l:List Int)(p:Int):mdels m (l++[p])=mdel (mdels m l) p:=by
 induction l generalizing m with
 |nil=>rfl
 |cons q r i=>exact i _
theorem N7(b:zY)(p:List Int):OK (jM (fm b p) (λ(s:Unit)=>(.inl ())) p.length 0 ()) (λo=>match o with|.inl _=>p.Nodup|.inr r=>r=(2,b)/\¬ p.Nodup):=by
 refine g9 (λi _=>(p.take i).Nodup) (by simp) ?_ ?_
 ·intro i s a c h k;unfold fm;refine f9 (i7 c (λx d=> ?_));have t:=eF d;rw [Al (by omega)];simp only [zbs,iv];refine d5 (λe=>b9 ⟨rfl,λf=> ?_⟩) (λe=>k _ ?_)
  ·have:=f.sublist (List.take_sublist (i+1) p)
   grind
  grind
 grind
theorem N8(a:zY)(b:List Int):OK (jM (fq a b) (λ(s:Unit)=>(.inl ())) b.length 0 ()) (λo=>match o with|.inl _=>∀p∈b,(jA a.held p).isSome=true|.inr r=>r=(41,a)/\¬ ∀p∈b,(jA a.held p).isSome=true):=by
 refine g9 (λi _=>∀p∈b.take i,(jA a.held p).isSome=true) (by simp) ?_ ?_
 ·intro i s c d h k;unfold fq;refine f9 (i7 d (λx e=> ?_));refine d5 (λf=>b9 ⟨rfl,λg=> ?_⟩) (λf=>k _ ?_)
  ·grind
  ·rw [eF e]
   grind
 grind
theorem N9(a:List Int)(p:zY):jM (ft a) (λ(s:zY)=>s) a.length 0 p=some ⟨p.maps,mdels p.held a⟩:=by
 refine OK.is (g9 (λi s=>s=⟨p.maps,mdels p.held (a.take i)⟩) rfl ?_ ?_)
 ·rintro i s b h rfl k;unfold ft;refine f9 (i7 h (λx c=>k _ ?_));rw [eF c,wG]
 grind
open Classical in
theorem Oa(a:zY)(b:List Int):bL a b=some (if b.Nodup then (if ∀p∈b,(jA a.held p).isSome=true then (0,⟨a.maps,mdels a.held b⟩) else (41,a)) else (2,a)):=by
 obtain ⟨o,h,c⟩:=N7 a b;unfold bL;rw [h];rcases o with u|r
 ·obtain ⟨o,d,e⟩:=N8 a b
  grind [N9]
 grind
theorem ua(m:List (Int×g))(k:Int)(x:g)(q:Int):jA (mput m k x) q=if k=q then some x else jA m q:=by
 induction m with
 |nil=>simp [mput,jA]
 |cons p m i=>
  grind [mput,jA]
theorem La(m:List (Int×g))(k:Int):(mdel m k).length<=m.length:=by
 induction m with
 |nil=>simp [mdel]
 |cons p m i=>
  grind [mdel]
theorem IV(a:List Int)(m:List (Int×g)):(mdels m a).length<=m.length:=by
 induction a generalizing m with
 |nil=>exact k9 _
 |cons p r i=>exact q8 (i _) (La _ _)
theorem Lb(m:List (Int×g))(k:Int)(x:g):(mput m k x).length<=m.length+1:=by
 induction m with
 |nil=>simp [mput]
 |cons p m i=>
  grind [mput]
def FA(m:List (Int×g)):Prop:=(m.map (·.1)).Nodup
theorem Cj:jA z e=none↔e∉z.map (·.1):=by
 induction z with
 |nil=>simp [jA]
 |cons p z i=>
  grind [jA]
theorem AF(h:jA z e=none):mput z e A=z++[(e,A)]:=iu h
theorem FA.mput(h:FA z)(c:jA z v=none):FA (mput z v A):=by
 rw [AF c];unfold FA;rw [t9];refine k7.2 ⟨h,by simp,λa f b d e=> ?_⟩;simp at d;subst d;subst e;exact Cj.1 c f
theorem IW(m:List (Int×g))(k:Int):(mdel m k).Sublist m:=by
 induction m with
 |nil=>exact List.Sublist.refl _
 |cons p m i=>
  grind [mdel]
theorem FA.mdel(h:FA z)(k:Int):FA (mdel z k):=h.sublist ((IW z k).map _)
theorem IX(h:FA z)(k q:Int):jA (mdel z k) q=if k=q then none else jA z q:=by
 induction z with
 |nil=>simp [Sx.mdel,jA]
 |cons p z i=>
  have c:=s7.1 (show (p.1::z.map (·.1)).Nodup from h);unfold Sx.mdel;by_cases e:p.1==k
  ·have d:p.1=k:=by simpa using e
   rw [d8 e];by_cases a:k=q
   ·rw [d8 a];subst a;exact Cj.2 (by grind)
   grind [jA]
  ·have d:p.1≠k:=by simpa using e
   rw [d7 e];unfold jA;by_cases b:p.1==q
   ·grind
   ·rw [d7 b,d7 b];exact i c.2
open Go.Sx
theorem Ck(m:List (Int×g))(k:Int)(x:g)(q:Int):jA (uI m k x) q=if k=q/\(jA m k).isSome then some x else jA m q:=by
 induction m with
 |nil=>simp [uI,gA,jA]
 |cons p m i=>
  by_cases h:p.1=k
  ·grind [uI,gA,jA]
  grind [uI,gA,jA]
theorem FB(m:List (Int×g))(k:Int)(x:g):(uI m k x).map (·.1)=m.map (·.1):=by
 induction m with
 |nil=>simp [uI,gA]
 |cons p m i=>
  grind [uI,gA]
theorem Lc(m:List (Int×g))(k:Int)(x:g):(uI m k x).length=m.length:=by
 have:=congrArg List.length (FB m k x)
 simpa using this
theorem IY{a:Type}(f:g->a)(m:List (Int×g))(k:Int)(x y:g)(h:jA m k=some y)(b:f x=f y):(uI m k x).map (λp=>(p.1,f p.2))=m.map (λp=>(p.1,f p.2)):=by
 induction m with
 |nil=>simp [uI,gA]
 |cons p m i=>
  grind [jA,uI,gA]
theorem Ld{a:Type}(f:g->a)(m:List (Int×g))(k:Int):(mdel m k).map (λp=>(p.1,f p.2))=mdel (m.map (λp=>(p.1,f p.2))) k:=by
 induction m with
 |nil=>rfl
 |cons p m i=>
  grind [mdel]
theorem Le{a:Type}(f:g->a)(m:List (Int×g))(k:Int):jA (m.map (λp=>(p.1,f p.2))) k=(jA m k).map f:=by
 induction m with
 |nil=>rfl
 |cons p m i=>
  grind [jA]
theorem Lg(h:jA z e=some A):(e,A)∈z:=by
 grind [eM]
structure fF (H M W:Nat) (n:Nat) (r:zb):Prop where
 Sz:r.Sz=H
 hl:r.SF.Sz.length=H
 maps:r.maps=M
 Uw:r.TE.maps=M
 wk:r.SC.in_.length=W
 Uk:H<=4/\M<=4/\W<=4
 Tv:n<=1000000000
 Uo:0<=r.Ta
 Ta:r.Ta<=n
 Ul:0<=r.SF.SU.last
 last:r.SF.SU.last<=n
 Um:1<=r.SC.TR
 TR:r.SC.TR<=n+1
 UL:∀e∈r.SC.in_,0<=e/\e<=r.SC.TR
 TD:FA r.SG
 len:r.SG.length<=16
 prog:∀p x,jA r.SG p=some x->1<=p/\p<=r.Ta/\tU x.module.Maps/\(∀m∈x.module.Maps,m<M)/\x.module.Code.length<=64/\0<=x.Tk/\x.Tk<=r.SC.TR
 held:r.TE.held=r.SG.map (λp=>(p.1,p.2.module.Maps))
 UU:r.waiting.Nodup
 Ur:∀p,p∈r.waiting↔∃x,jA r.SG p=some x/\0<x.Tk
theorem fF.mono(h:fF H M W n r)(b:n<=n')(a:n'<=1000000000):fF H M W n' r:=
 {h with Tv:=a,Ta:=by have:=h.Ta;omega,last:=by have:=h.last;omega,TR:=by have:=h.TR;omega}
theorem fF.wlen(h:fF H M W n r):r.waiting.length<=r.SG.length:=by
 have a:r.waiting ⊆ r.SG.map (·.1):=λp b=>by
  obtain ⟨x,c,_⟩:=(h.Ur p).1 b;exact List.mem_map_of_mem (f:=λ(q:Int×zU)=>q.1) (Lg c)
 have:=List.Nodup.length_le_of_subset h.UU a
 simpa using this
theorem Qf(j:1<=H)(h:H<=4)(b:M<=4)(k:1<=W)(a:W<=4):∃r,bV H M W=some (some r,0)/\fF H M W 0 r/\r.Ta=0/\r.SF.SU.last=0/\(r.SG=[]/\∀u∈r.SF.Sz,u.SL=0)/\r.waiting=[]/\r.SC.in_=List.replicate W 0:=by
 have c:ko H=some (some ⟨⟨0⟩,List.replicate H ⟨0,0⟩⟩,0):=by
  grind [ko,mkLen]
 have d:kZ M=some (some ⟨M,[]⟩,0):=by
  grind [kZ]
 have f:eh W=some (some ⟨1,List.replicate W 0⟩,0):=by
  grind [eh,mkLen]
 refine ⟨_,by unfold bV;rw [c,d,f];rfl,?_,rfl,rfl,⟨rfl,λu g=>by rw [R6 g]⟩,rfl,rfl⟩;exact {Sz:=rfl,hl:=by simp,maps:=rfl,Uw:=rfl,wk:=by simp,Uk:=⟨h,b,a⟩,Tv:=by omega,Uo:=by simp,Ta:=by simp,Ul:=by simp,last:=by simp,Um:=by simp,TR:=by simp,UL:=λe l=>by grind,TD:=m6,len:=by simp,prog:=λp x i=>by simp [jA] at i,held:=rfl,UU:=m6,Ur:=λp=>by simp [jA]}
theorem Ob(f:¬ (1<=h/\h<=4/\0<=e/\e<=4/\1<=x/\x<=4)):bV h e x=some (none,2):=by
 unfold bV ko kZ eh;by_cases g:1<=h/\h<=4
 ·have c:mkLen h 16=some h.toNat:=by unfold mkLen;rw [d8 ⟨by omega,by omega⟩]
  rw [d7 (by simp;omega),c];by_cases d:0<=e/\e<=4
  ·rw [d7 (by simp;omega)];rw [d8 (by simp;omega)];rfl
  ·rw [d8 (by simp;omega)];by_cases b:1<=x/\x<=4
   ·have a:mkLen x 8=some x.toNat:=by unfold mkLen;rw [d8 ⟨by omega,by omega⟩]
    rw [d7 (by simp;omega),a];rfl
   ·rw [d8 (by simp;omega)];rfl
 ·rw [d8 (by simp;omega)];by_cases d:0<=e/\e<=4
  ·rw [d7 (by simp;omega)];by_cases b:1<=x/\x<=4
   ·have a:mkLen x 8=some x.toNat:=by unfold mkLen;rw [d8 ⟨by omega,by omega⟩]
    rw [d7 (by simp;omega),a];rfl
   ·rw [d8 (by simp;omega)];rfl
  ·rw [d8 (by simp;omega)];by_cases b:1<=x/\x<=4
   ·have a:mkLen x 8=some x.toNat:=by unfold mkLen;rw [d8 ⟨by omega,by omega⟩]
    rw [d7 (by simp;omega),a];rfl
   ·rw [d8 (by simp;omega)];rfl
open Go.Sx
def oz(maps:Int)(b:List Int):Option (zD×Int):=(dR 2199023255552 b).bind λd=>if d.2.2 !=0 then some (d.1,d.2.2) else
 (vr 2199023255552 d.1).bind λj=>if j.2 !=0 then some (d.1,j.2) else some (d.1,if d.1.Maps.any (λx=>decide (maps<=x)) then 41 else 0)
theorem Gu(maps:Int)(c:l.length<=140737488355328):OK (oz maps l) (λv=>v.2=0->tU v.1.Maps/\(∀x∈v.1.Maps,x<maps)/\v.1.Code.length<=64):=by
 unfold oz;have a:=Jk c;refine d6 a (λd f=>d5 (λh=>b9 (λe=>absurd e (by simpa using h))) (λh=> ?_));have b:=f (by simpa using h);refine d6 (K1 d.1) (λj _=>d5 (λh=>b9 (λe=>absurd e (by simpa using h))) (λ_=>b9 (λe=>⟨b.1,λx g=> ?_,b.2⟩)))
 grind
def added(r:zb)(m:zD):zb:={r with TE:=⟨r.TE.maps,mput r.TE.held (r.Ta+1) m.Maps⟩,Ta:=r.Ta+1,SG:=mput r.SG (r.Ta+1) ⟨m,0⟩}
theorem ub(h:fF H M W n r):jA r.SG (r.Ta+1)=none:=by
 cases a:jA r.SG (r.Ta+1) with
 |none=>rfl
 |some x=>have:=(h.prog _ _ a).2.1;omega
theorem FC(h:fF H M W n r)(p:Int):jA r.TE.held p=(jA r.SG p).map (·.module.Maps):=by rw [h.held];exact Le (λ(x:zU)=>x.module.Maps) _ _
theorem Oc(r:zb)(d:zD×Int×Int):OK (jM (vY r d) (λ(s:Unit)=>(.inl ())) d.1.Maps.length 0 ()) (λo=>match o with|.inl _=>∀x∈d.1.Maps,x<r.maps|.inr q=>q=(0,41,r)/\¬ ∀x∈d.1.Maps,x<r.maps):=by
 refine g9 (λi _=>∀x∈d.1.Maps.take i,x<r.maps) (by simp) ?_ ?_
 ·intro i s a e g k;unfold vY;refine f9 (i7 e (λx b=>d5 (λc=>b9 ⟨rfl,λh=> ?_⟩) (λc=>k _ ?_)))
  ·have:=h x (zmg b);simp at c;omega
  ·intro y f;rw [eF b] at f
   grind
 grind
theorem Od(h:fF H M W n r)(b:oz r.maps l=some B)(e:B.2=0->tU B.1.Maps/\(∀x∈B.1.Maps,x<r.maps)/\B.1.Code.length<=64):
  jr 2199023255552 r l=some (if B.2≠0 then (0,B.2,r) else if 16<=r.SG.length then (0,40,r) else (r.Ta+1,0,added r B.1)):=by
 unfold oz at b;unfold jr;cases i:dR 2199023255552 l with
 |none=>rw [i] at b;simp at b
 |some d=>
  rw [i] at b;simp only [zbs] at b |-;by_cases s:d.2.2=0
  ·rw [d7 (by simp [s])] at b |-;cases k:vr 2199023255552 d.1 with
   |none=>rw [k] at b;simp at b
   |some j=>
    rw [k] at b;simp only [zbs] at b |-;by_cases f:j.2=0
    ·rw [d7 (by simp [f])] at b |-;simp only [i5] at b;obtain ⟨o,t,z⟩:=Oc r d;rw [t];simp only [zbs];cases o with
     |inr q=>
      grind
     |inl u=>
      have:d.1.Maps.any (λx=>decide (r.maps<=x))=false:=by
       grind
      rw [this] at b;subst b;have a:=e rfl;simp only;by_cases hl:16<=r.SG.length
      ·grind
      ·rw [d7 (by simp;omega)];have v:=h.Uo;have w:=h.Ta;have A:=h.Tv;have y:w64 (r.Ta+1)=r.Ta+1:=gt (by omega) (by omega);have g:goodM r.TE.maps d.1.Maps:=⟨a.1.2.1,λm p=>⟨(a.1.1 m p).1,by rw [h.Uw,<- h.maps];exact a.2.1 m p⟩⟩
       have c:jA r.TE.held (r.Ta+1)=none:=by grind [FC,ub]
       rw [y,N6 _ _ _ (by have:d.1.Maps.length<=4:=a.1.2.2;omega),d8 g,c];simp [hl,added]
    grind
  grind
theorem IZ(h:fF H M W n r)(d:n+1<=1000000000)(hl:¬ 16<=r.SG.length)(a:tU m.Maps/\(∀x∈m.Maps,x<M)/\m.Code.length<=64):fF H M W (n+1) (added r m):=by
 have c:=ub h;have f:=h.Uo;have g:=h.Ta;refine {Sz:=h.Sz,hl:=h.hl,maps:=h.maps,Uw:=h.Uw,wk:=h.wk,Uk:=h.Uk,Tv:=d,Uo:=by simp [added];omega,Ta:=by simp [added];omega,Ul:=h.Ul,last:=by have:=h.last;simp [added];omega,Um:=h.Um,TR:=by have:=h.TR;simp [added];omega,UL:=h.UL,TD:=h.TD.mput c,len:= ?_,prog:= ?_,held:= ?_,UU:=h.UU,Ur:= ?_}
 ·grind [Lb,added]
 ·intro p x b;simp only [added,ua] at b |-;split at b
  ·rename_i e
   cases b
   exact ⟨by omega,by omega,a.1,a.2.1,a.2.2,by simp,by have:=h.Um;simp;omega⟩
  ·have:=h.prog p x b
   grind
 ·simp only [added];have i:jA r.TE.held (r.Ta+1)=none:=by grind [FC]
  rw [AF c,AF i,h.held];simp
 ·intro p;rw [show (added r m).waiting=r.waiting from rfl,h.Ur p]
  grind [added,ua]
def Gv(r:zb)(t:zx):zb:={r with SF:=t}
theorem Cl(h:fF H M W n r)(a:n+1<=1000000000)(b:C.Sz.length=H)(c:0<=C.SU.last)(d:C.SU.last<=n+1):fF H M W (n+1) (Gv r C):=
 {h.mono (n':=n+1) (by omega) a with hl:=b,Ul:=c,last:=by simp [Gv];omega}
theorem oA{g:Type}{l:List g}(h:0<=e)(a:e<l.length):∃x,idx l e=some x/\l[e.toNat]? =some x:=by
 have hl:e.toNat<l.length:=by omega
 refine ⟨l[e.toNat],?_,zeg hl⟩;unfold idx
 grind
theorem wH(h:fF H M W n r)(a:0<=e)(f:e<H):xr r.SF e v=some (r.SF.SU.last+1,0,⟨⟨r.SF.SU.last+1⟩,r.SF.Sz.set e.toNat ⟨r.SF.SU.last+1,v⟩⟩):=by
 have g:=h.Tv;have b:=h.Ul;have c:=h.last;unfold xr ay bu;rw [gt (by omega) (by omega)];obtain ⟨x,d,_⟩:=oA (l:=r.SF.Sz) a (by rw [h.hl];omega);simp [d]
structure Cm (r:zb) (k p:Int) (q:Int×Int×zb):Prop where
 no:q.2.1≠0->q.1=0/\q.2.2=r
 yes:q.2.1=0->q.1=r.SF.SU.last+1/\(∃x,jA r.SG p=some x/\x.Tk=0)/\∃l,l=r.SF.Sz.set k.toNat ⟨r.SF.SU.last+1,p⟩/\q.2.2=Gv r ⟨⟨r.SF.SU.last+1⟩,l⟩
 gone:0<=k->k<r.Sz->jA r.SG p=none->q.1=0/\q.2.1=41
theorem Gw(h:fF H M W n r)(a:0<=e)(b:e<H):OK (vS r.SF e v) (λq=>(q.2.1≠0/\q.1=0/\q.2.2=r.SF)\/(q.2.1=0/\q.1=r.SF.SU.last+1/\∃l,l=r.SF.Sz.set e.toNat ⟨r.SF.SU.last+1,v⟩/\q.2.2=⟨⟨r.SF.SU.last+1⟩,l⟩)):=by
 unfold vS jg jh;obtain ⟨x,c,_⟩:=oA (l:=r.SF.Sz) a (by rw [h.hl];omega);simp only [zbs,c,wH h a b];refine d5 (λ_=>b9 (.inl ⟨by simp,rfl,rfl⟩)) (λ_=>d5 (λ_=>b9 (.inl ⟨by simp,rfl,rfl⟩)) (λ_=>b9 (.inr ⟨rfl,rfl,_,rfl,rfl⟩)))
theorem Lh(h:fF H M W n r)(a:0<=e)(b:e<H):OK (bD r.SF e v) (λq=>(q.2.1≠0/\q.1=0/\q.2.2=r.SF)\/(q.2.1=0/\q.1=r.SF.SU.last+1/\∃l,l=r.SF.Sz.set e.toNat ⟨r.SF.SU.last+1,v⟩/\q.2.2=⟨⟨r.SF.SU.last+1⟩,l⟩)):=by
 unfold bD jg jh;obtain ⟨x,c,_⟩:=oA (l:=r.SF.Sz) a (by rw [h.hl];omega);simp only [zbs,c,wH h a b];refine d5 (λ_=>b9 (.inl ⟨by simp,rfl,rfl⟩)) (λ_=>d5 (λ_=>b9 (.inl ⟨by simp,rfl,rfl⟩)) (λ_=>b9 (.inr ⟨rfl,rfl,_,rfl,rfl⟩)))
theorem uc(h:fF H M W n r)(k p:Int):OK (jB r k p) (Cm r k p):=by
 unfold jB;refine d5 (λb=>b9 ⟨λ_=>⟨rfl,rfl⟩,λe=>by simp at e,λi=>by simp at b;omega⟩) (λi=> ?_);refine d5 (λb=>b9 ⟨λ_=>⟨rfl,rfl⟩,λe=>by simp at e,λ_ j=>by simp at b;omega⟩) (λj=> ?_);have c:0<=k:=by simp at i;omega
 have d:k<H:=by simp [h.Sz] at j;omega
 cases m:jA r.SG p with
 |none=>
  refine j6 rfl ?_;exact b9 ⟨λ_=>⟨rfl,rfl⟩,λe=>by simp at e,λ_ _ _=>⟨rfl,rfl⟩⟩
 |some x=>
  refine m9 rfl ?_;simp only [zbs];refine d5 (λb=>b9 ⟨λ_=>⟨rfl,rfl⟩,λe=>by simp at e,λ_ _ _=>⟨rfl,rfl⟩⟩) (λb=> ?_);refine d6 (Gw h c d) (λq o=>b9 ?_);rcases o with ⟨f,g,a⟩|⟨f,g,l,hl,a⟩
  ·exact ⟨λ_=>⟨g,by rw [a]⟩,λe=>absurd e f,λ_ _ s=>by grind⟩
  ·exact ⟨λe=>absurd f e,λ_=>⟨g,⟨x,m,by simpa using b⟩,l,hl,by rw [a];rfl⟩,λ_ _ s=>by grind⟩
theorem Eb(h:fF H M W n r)(k p:Int):OK (jQ r k p) (Cm r k p):=by
 unfold jQ;refine d5 (λb=>b9 ⟨λ_=>⟨rfl,rfl⟩,λe=>by simp at e,λi=>by simp at b;omega⟩) (λi=> ?_);refine d5 (λb=>b9 ⟨λ_=>⟨rfl,rfl⟩,λe=>by simp at e,λ_ j=>by simp at b;omega⟩) (λj=> ?_);have c:0<=k:=by simp at i;omega
 have d:k<H:=by simp [h.Sz] at j;omega
 cases m:jA r.SG p with
 |none=>
  refine j6 rfl ?_;exact b9 ⟨λ_=>⟨rfl,rfl⟩,λe=>by simp at e,λ_ _ _=>⟨rfl,rfl⟩⟩
 |some x=>
  refine m9 rfl ?_;simp only [zbs];refine d5 (λb=>b9 ⟨λ_=>⟨rfl,rfl⟩,λe=>by simp at e,λ_ _ _=>⟨rfl,rfl⟩⟩) (λb=> ?_);refine d6 (Lh h c d) (λq o=>b9 ?_);rcases o with ⟨f,g,a⟩|⟨f,g,l,hl,a⟩
  ·exact ⟨λ_=>⟨g,by rw [a]⟩,λe=>absurd e f,λ_ _ s=>by grind⟩
  ·exact ⟨λe=>absurd f e,λ_=>⟨g,⟨x,m,by simpa using b⟩,l,hl,by rw [a];rfl⟩,λ_ _ s=>by grind⟩
theorem Cm.inv(h:fF H M W n r)(a:n+1<=1000000000)(b:Cm r x v D):fF H M W (n+1) D.2.2:=by
 by_cases e:D.2.1=0
 ·obtain ⟨_,_,l,hl,c⟩:=b.yes e;rw [c];have d:=h.Ul;have f:=h.last;exact Cl h a (by rw [hl,j8];exact h.hl) (by simp;omega) (by simp;omega)
 ·rw [(b.no e).2];exact h.mono (by omega) a
end Go.Proofs.YtplmgfkghomelaaGreatDoor
