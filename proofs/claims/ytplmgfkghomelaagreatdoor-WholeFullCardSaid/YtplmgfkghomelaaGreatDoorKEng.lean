/- Lemmas. -/
import Derived.Test.YtplmgfkghomelaaGreatDoorKSem
import Derived.Test.YtplmgfkghomelaaGreatDoorO1
set_option linter.unusedVariables false
set_option linter.unusedSimpArgs false
namespace Go.Proofs.YtplmgfkghomelaaGreatDoor
section
section
section
open Go.Sx
variable {code:List zf} {q:Nat} {M:EM} {i:zf} {m:zC} {j:zj}
theorem Na(g:ua code){p:Nat}(h:Way code p q)(hlt:p<q):∀a,qW code q a=true->qW code p a=true\/∃i,code[a]? =some i/\(q:Int)=a-i.D:=by
 intro a ha;obtain ⟨ia,a1,a2,a3,a4,a5,a6,a7,a8⟩:=iy g ha;by_cases hc:qW code p a=true
 ·exact .inl hc
 ·right
  refine ⟨ia,a1,?_⟩;have hc':qW code p a=false:=by simpa using hc
  obtain ⟨i,hi,hw⟩:=h;rcases hw with ⟨h1,h2⟩|⟨h1,h2,h3⟩
  ·rcases Int.lt_or_le ((a:Int)-ia.D) q with h3|h3
   ·exfalso
    have:=(xw a1 a2).2 (show (a:Int)-ia.D<=p/\p<=a by omega)
    grind
   ·omega
  ·rcases Int.lt_or_le ((a:Int)-ia.D) q with h4|h4
   ·exfalso
    exact g.en p (zes.1 hi).1 ⟨i,hi,h1,h2,a,ia,q,a7,a1,a2,h3,ha,hc',by omega⟩
   ·omega
theorem HK(g:ua code){back back':Nat->Int}(hf:Fit code back){p:Nat}(hp:p<code.length)(h:Way code p q)(hlt:p<q)(hb:∀a,a≠p->back' a=back a)(hb2:∀i,code[p]? =some i->i.Op=20->q=p+1)(hb3:∀i,code[p]? =some i->i.Op≠20->back' p=back p):
  pot code back' q code.length+1<=pot code back p code.length:=by
 refine E3 hp (λt ht=>NG g hf hlt (Na g h hlt) (λa ha=> ?_) ht);obtain ⟨ia,a1,a2,a3,a4,a5,a6,a7,a8⟩:=iy g ha;have hfa:=hf a ia a1 a2
 grind
structure Run (m:zC) (j:zj) (M:EM) (p:Nat):Prop where
 Ug:M.module=m
 SB:M.SB=p
 lt:p<m.Code.length
 known:At j p M.regs
 u:tA M.regs
 fit:Fit m.Code M.LE
 Sy:∀i,u64 (M.SY.Tb.Sy i)
 ev:u64 M.Sz.A/\u64 M.Sz.B
structure Ba (m:zC) (j:zj):Prop where
 TF:ua m.Code
 goodM:th m.Maps
 up:F9 m m.Code.length j
 snd:Snd m m.Code.length j
theorem wy(hb:i.B=8\/(0<=i.B/\i.B<8)):gW M i=some (DW i M.regs):=by
 grind [gW,DW,F7]
theorem Nb{W:qQ}(h:∀i,u64 (W.Sy i))(t:Int):OK (xH W t) (λr=>u64 r.1):=by
 unfold xH;refine d5 (λ_=>b9 ⟨by simp,by simp⟩) (λhc=> ?_)
 grind [ain,b9]
theorem Km{W:qQ}(h:∀i,u64 (W.Sy i))(t:Int){v:Int}(hv:u64 v):OK (xr W t v) (λr=>∀i,u64 (r.2.Sy i)):=by
 unfold xr;refine d5 (λ_=>b9 h) (λhc=> ?_)
 grind [ain,b9,u64,aset]
theorem Nc(C:jq)(t:Int):OK (jY C t) (λr=>u64 r.1):=by
 unfold jY;refine d5 (λ_=>b9 ⟨by simp,by simp⟩) (λhc=> ?_)
 grind [ain,b9,u64,aset,xc]
structure Ran (m:zC) (i:zf) (p:Nat) (M:EM) (r:Int×EM):Prop where
 Ug:r.2.module=M.module
 st:r.2.state=M.state
 ev:r.2.Sz=M.Sz
 Sy:∀i,u64 (r.2.SY.Tb.Sy i)
 step:∃q:Nat,w64 (M.SB+r.1)=q/\Stp i p M.regs q r.2.regs/\(i.Op≠20->r.2.LE=M.LE/\p<q)/\
  (i.Op=20->(q=p+1/\r.2.LE=aset M.LE p 0)\/((q:Int)=p-i.D/\M.LE p<i.SU/\r.2.LE=aset M.LE p (M.LE p+1)))
theorem Pv(hS:Ba m j){p:Nat}(h:Run m j M p)(hi:m.Code[p]? =some i)(h21:i.Op≠21)(h22:i.Op≠22):OK (BI M i) (Ran m i p M):=by
 have hg:=hS.TF;have hn:=hg.Us;have hr:=hg.Th.right hi;have hop:=mO hr;have hA:=nV hr;have hp:=h.lt;have hat:=h.SB;have one:w64 (M.SB+1)=((p+1:Nat):Int):=by grind [qt]
 have hA8:ain 8 i.A=some i.A.toNat:=F7 hA.1 hA.2;have hD:¬ (15<=i.Op/\i.Op<=20)->ain 8 i.D=some i.D.toNat:=λh=>F7 (nU hr h).1 (nU hr h).2
 have plain:∀{R:Nat->Int} {S:zl},i.Op≠20->(∀t,u64 (S.Tb.Sy t))->Stp i p M.regs (p+1) R->Ran m i p M (1,{M with SY:=S,regs:=R}):=
  λhne hw hs=>⟨rfl,rfl,rfl,hw,p+1,one,hs,λ_=>⟨rfl,by omega⟩,λe=>absurd e hne⟩
 unfold BI;refine d5 (λe=> ?_) (λe0=> ?_)
 ·have e:i.Op=0:=by simpa using e
  rw [wy (bf hr (.inl (by omega))),hD (by omega)];exact b9 (plain (by omega) h.Sy (.set e))
 refine d5 (λe=> ?_) (λe11=> ?_)
 ·have e:i.Op=11:=by simpa using e
  rw [wy (bf hr (.inl (by omega)))];simp only [zbs];refine d6 (Nb h.Sy _) (λv hv=> ?_);rw [hD (by omega)];exact b9 (plain (by omega) h.Sy (.any v.1 (.inl e) hv))
 refine d5 (λe=> ?_) (λe12=> ?_)
 ·have e:i.Op=12:=by simpa using e
  rw [hA8,wy (bf hr (.inl (by omega)))];simp only [zbs];exact d6 (Km h.Sy _ (h.u _ (by omega))) (λv hv=>b9 (plain (by omega) hv (.store e)))
 refine d5 (λe=> ?_) (λe13=> ?_)
 ·have e:i.Op=13:=by simpa using e
  rw [hD (by omega)];simp only [zbs];refine d5 (λ_=>b9 ?_) (λ_=>b9 (plain (by omega) h.Sy (.any _ (.inr e) h.ev.1)))
  have:aset (aset M.regs i.D.toNat M.Sz.A) i.D.toNat M.Sz.B=aset M.regs i.D.toNat M.Sz.B:=by
   grind [aset]
  rw [this];exact plain (by omega) h.Sy (.any _ (.inr e) h.ev.2)
 refine d5 (λe=> ?_) (λe14=> ?_)
 ·have e:i.Op=14:=by simpa using e
  have him:=nW hr e;rw [hD (by omega),xR (x:=i.SU) him.1 (by omega)];exact b9 (plain (by omega) h.Sy (.map e))
 refine d5 (λe=> ?_) (λe15=> ?_)
 ·have e:i.Op=15:=by simpa using e
  have hl:(jv i).2.1=true:=by grind [cg]
  have hlead:=hg.Th.leads hi hl;rw [cg hr (by omega) (by omega)] at hlead;simp only at hlead;have hJ:=rq (i:=i) (by grind [ek,inB]);obtain ⟨q,hq⟩:=zof hlead.1;refine b9 ⟨rfl,rfl,rfl,h.Sy,q,?_,.jump q e (by omega),λ_=>⟨rfl,by omega⟩,λe2=>by omega⟩
  grind [w64,qt]
 refine d5 (λe=> ?_) (λe20=> ?_)
 ·have e:i.Op=20:=by simpa using e
  have hlp:=hg.Th.loop hi e;have hfit:=h.fit p i hi e;have ha64:ain 64 M.SB=some p:=by grind [PN]
  rw [hA8,ha64];simp only [zbs];refine d6 (R:=λo=>o=true->M.LE p<i.SU) (d5 (λ_=>b9 (λh=>yc h)) (λ_=>b9 (λh=>by cases h))) (λo ho=> ?_);refine d5 (λht=>b9 ?_) (λ_=>b9 ?_)
  ·have hlt:=ho ht;refine ⟨rfl,rfl,rfl,h.Sy,((p:Int)-i.D).toNat,?_,.back _ e (by omega),λhne=>absurd e hne,λ_=>.inr ⟨by omega,hlt,?_⟩⟩
   ·grind [w64,qt]
   grind [aset,w64,qt]
  ·exact ⟨rfl,rfl,rfl,h.Sy,p+1,one,.on e,λhne=>absurd e hne,λ_=>.inl ⟨rfl,rfl⟩⟩
 simp only [beq_eq_false_iff_ne,ne_eq] at e0 e11 e12 e13 e14 e15 e20;have hsb:i.B=8\/(0<=i.B/\i.B<8):=bf hr (by omega);have hus:=Aa h.u hsb;have hua:=h.u i.A.toNat (by omega);rw [hA8,wy hsb];simp only [zbs];rw [wX hua hus];simp only [zbs];refine d5 (λho=> ?_) (λho=> ?_)
 ·simp at ho;rw [hD (by omega)];exact b9 (plain (by omega) h.Sy (.arith ho.1 ho.2))
 ·have h16:16<=i.Op/\i.Op<=19:=by
   rw [Bool.and_eq_false_iff] at ho
   grind
  rw [Fe];simp only [zbs];have hl:(jv i).2.1=true:=by grind [cg]
  have hlead:=hg.Th.leads hi hl;rw [cg hr (by omega) (by omega)] at hlead;simp only at hlead;have hJ:=rq (i:=i) (by grind [ek,inB]);obtain ⟨q,hq⟩:=zof hlead.1;refine d5 (λht=>b9 ?_) (λhf=>b9 ?_)
  ·refine ⟨rfl,rfl,rfl,h.Sy,q,?_,.yes q h16.1 h16.2 ht (by omega),λ_=>⟨rfl,by omega⟩,λe2=>by omega⟩
   grind [w64,qt]
  ·exact ⟨rfl,rfl,rfl,h.Sy,p+1,one,.no h16.1 h16.2 hf,λ_=>⟨rfl,by omega⟩,λe2=>by omega⟩
theorem wz{p:Nat}{regs regs':Nat->Int}(hr:xb i=true)(hi:code[p]? =some i)(h:Stp i p regs q regs')(h20:i.Op=20->q=p+1):Way code p q:=by
 have on:(jv i).2.2=true->Way code p (p+1):=λh=>⟨i,hi,.inl ⟨h,rfl⟩⟩
 have pl:¬ (15<=i.Op/\i.Op<=20)->i.Op≠22->(jv i).2.2=true:=λh1 h2=>by grind [uX]
 have jm:∀{q:Nat},15<=i.Op->i.Op<=19->(q:Int)=p+(i.D+1)->Way code p q:=λ{q}h1 h2 h3=>by
  have:=rq (i:=i) (by grind [ek,inB]);exact ⟨i,hi,.inr ⟨by grind [cg],by grind [cg],by grind [cg]⟩⟩
 cases h with
 |set e=>exact on (pl (by omega) (by omega))
 |arith e1 e2=>exact on (pl (by omega) (by omega))
 |any v e hv=>exact on (pl (by omega) (by omega))
 |store e=>exact on (pl (by omega) (by omega))
 |map e=>exact on (pl (by omega) (by omega))
 |jump q e1 e2=>exact jm (by omega) (by omega) e2
 |yes q e1 e2 e3 e4=>exact jm (by omega) (by omega) e4
 |no e1 e2 e3=>exact on (by grind [cg])
 |back q e1 e2=>rw [h20 e1];exact on (by rw [oS hr e1])
 |on e=>exact on (by rw [oS hr e])
 |call v e hv=>exact on (pl (by omega) (by omega))
def Pw(m:zC)(j:zj)(M M':EM)(p:Nat):Prop:=∃q,Run m j M' q/\pot m.Code M'.LE q m.Code.length+1<=pot m.Code M.LE p m.Code.length/\
 ∃i,m.Code[p]? =some i/\((jv i).2.1=true/\(q:Int)=p+(jv i).1\/(jv i).2.2=true/\(q:Int)=p+1)
theorem Way.to{p:Nat}(h:Way code p q):∃i,code[p]? =some i/\((jv i).2.1=true/\(q:Int)=p+(jv i).1\/(jv i).2.2=true/\(q:Int)=p+1):=by
 obtain ⟨i,hi,h|h⟩:=h
 ·grind
 grind
theorem EP(hS:Ba m j){p:Nat}(h:Run m j M p)(hi:m.Code[p]? =some i){r:Int×EM}(hr:Ran m i p M r){steps state:Int}:
  Pw m j M ⟨r.2.Sz,r.2.module,r.2.SY,r.2.regs,r.2.LE,w64 (M.SB+r.1),steps,state⟩ p:=by
 have hg:=hS.TF;have hri:=hg.Th.right hi;obtain ⟨q,hq,hst,hne,h20⟩:=hr.step;have hat:=hS.snd.step p i _ h.lt hi h.known.1 h.known.2.choose_spec.1 M.regs q r.2.regs h.u h.known.2.choose_spec.2 hst
 have hql:q<m.Code.length:=by
  have:=(zes.1 hat.1).1;rw [hS.up.ji.TU] at this;exact this
 have base:Fit m.Code r.2.LE->Run m j ⟨r.2.Sz,r.2.module,r.2.SY,r.2.regs,r.2.LE,w64 (M.SB+r.1),steps,state⟩ q:=
  λhf=>⟨by rw [<- h.Ug];exact hr.Ug,hq,hql,hat,hst.u64s hri h.u,hf,hr.Sy,by show u64 r.2.Sz.A/\_;rw [hr.ev];exact h.ev⟩
 by_cases e20:i.Op=20
 ·have hlp:=hg.Th.loop hi e20;have hfit:=h.fit p i hi e20;rcases h20 e20 with ⟨rfl,ht⟩|⟨hqd,hlt,ht⟩
  ·refine ⟨p+1,base ?_,?_,(wz hri hi hst (λ_=>rfl)).to⟩
   ·intro a ia ha ho;rw [ht];unfold aset;split
    ·grind
    ·exact h.fit a ia ha ho
   ·show pot m.Code r.2.LE _ _+1<=_;refine HK hg h.fit h.lt (wz hri hi hst (λ_=>rfl)) (by omega) (λa ha=> ?_) (λ_ _ _=>rfl) (λi' hi' hne=> ?_)
    ·rw [ht];unfold aset;rw [d8 ha]
    grind
  ·refine ⟨q,base ?_,?_,i,hi,.inl (by grind [oS])⟩
   ·intro a ia ha ho;rw [ht];unfold aset;split
    ·grind
    ·exact h.fit a ia ha ho
   ·show pot m.Code r.2.LE _ _+1<=_;refine E3 h.lt (λt ht2=>KM hg h.fit hi e20 hqd ?_ (λb hb=> ?_) hlt ht2)
    ·rw [ht];unfold aset;rw [d7 rfl]
    ·rw [ht];unfold aset;rw [d8 hb]
 ·obtain ⟨ht,hlt⟩:=hne e20;refine ⟨q,base (by rw [ht];exact h.fit),?_,(wz hri hi hst (λe=>absurd e e20)).to⟩
  show pot m.Code r.2.LE _ _+1<=_;refine HK hg h.fit h.lt (wz hri hi hst (λe=>absurd e e20)) hlt (λa _=>by rw [ht]) (λi' hi' ho=> ?_) (λ_ _ _=>by rw [ht])
  grind
theorem HL:∀k:Fin 7,∃s,cU ((k:Nat):Int)=some (s,true)/\s.TS=decide ((k:Nat)<=4)/\0<=s.most/\(((k:Nat)=0\/(k:Nat)=4\/(k:Nat)=5)->s.most=18446744073709551615)/\(((k:Nat)=1\/(k:Nat)=2\/(k:Nat)=3)->s.most=1)/\((k:Nat)<=4->0<=s.asks/\s.asks<5):=by
 intro k;have h:∀k:Fin 7,((cU ((k:Nat):Int)).map (λr=>r.2&&(r.1.TS==decide ((k:Nat)<=4))&&decide (0<=r.1.most)&&(!(decide ((k:Nat)=0)||decide ((k:Nat)=4)||decide ((k:Nat)=5))||r.1.most==18446744073709551615)&&(!(decide ((k:Nat)=1)||decide ((k:Nat)=2)||decide ((k:Nat)=3))||r.1.most==1)&&(!decide ((k:Nat)<=4)||(decide (0<=r.1.asks)&&decide (r.1.asks<5)))))=some true:=by decide+kernel
 obtain ⟨⟨s,b⟩,h1,h2⟩:=yf.1 (h k)
 grind
theorem sT(hS:Ba m j){p:Nat}(h:Run m j M p)(hi:m.Code[p]? =some i)(ho:i.Op=21){v:Int}(hv:∀s,cU i.SU=some (s,true)->0<=v/\v<=s.most){S:zl}(hS2:∀t,u64 (S.Tb.Sy t)){steps state:Int}:
  Pw m j M ⟨M.Sz,M.module,S,aset M.regs 0 v,M.LE,w64 (M.SB+1),steps,state⟩ p:=by
 have hn:=hS.TF.Us;have hlt:=h.lt
 have:=EP hS h hi (r:=(1,{M with SY:=S,regs:=aset M.regs 0 v})) (steps:=steps) (state:=state)
  ⟨rfl,rfl,rfl,hS2,p+1,by show w64 (M.SB+1)=_;rw [h.SB,qt (by omega) (by omega)];simp,.call v ho hv,λ_=>⟨rfl,by omega⟩,λe=>by omega⟩
 exact this
inductive sV (m:zC) (j:zj) (M:EM) (p:Nat) (i:zf) (r:qZ×EM):Prop
 |ends:i.Op=22->r.1.RZ=4->r.2.state=2->Run m j r.2 p->sV m j M p i r
 |asks:i.Op=21->i.SU<=4->r.1.RZ=2->r.2.state=1->Run m j r.2 p->r.2.LE=M.LE->(r.1.Item.SO∈m.Maps/\0<=r.1.Item.Op/\r.1.Item.Op<5)->sV m j M p i r
 |goes:r.1.RZ=1\/r.1.RZ=3->r.2.state=0->Pw m j M r.2 p->sV m j M p i r
theorem Kn(hS:Ba m j){p:Nat}(h:Run m j M p)(h0:M.state=0)(hi:m.Code[p]? =some i):OK (ti 2199023255552 M) (λr=>sV m j M p i r/\r.1.Pc=p):=by
 have hg:=hS.TF;have hr:=hg.Th.right hi;have hA:=nV hr
 have hi2:idx M.module.Code M.SB=some i:=by
  rw [h.Ug,h.SB];obtain ⟨x,hx1,hx2⟩:=aJ h.lt
  grind
 have hrun:∀{steps state:Int},Run m j {M with steps:=steps,state:=state} p:=⟨h.Ug,h.SB,h.lt,h.known,h.u,h.fit,h.Sy,h.ev⟩
 unfold ti;refine d5 (λe=>by grind) (λ_=>d5 (λe=>by grind) (λ_=> ?_));rw [hi2];simp only [zbs];refine d5 (λe=> ?_) (λe21=> ?_)
 ·have e:i.Op=21:=by simpa using e
  have him:=mi hr e;obtain ⟨n,hn⟩:=zof him.1;obtain ⟨sg,s1,s2,s3,s4,s5,s6⟩:=HL ⟨n,by omega⟩;have s1':cU i.SU=some (sg,true):=by rw [hn];exact s1
  have s2':sg.TS=decide (n<=4):=s2;refine d6 (R:=λr=>sV m j M p i r/\r.1.Pc=p) ?_ (λx hx=>b9 hx);unfold wU lY;simp only [s1',zbs];refine d5 (λha=> ?_) (λha=> ?_)
  ·have h4:n<=4:=by rw [s2'] at ha;exact yc ha
   obtain ⟨hany,x,hx,hsm⟩:=h.known;have hk:=hS.snd.Ue p i x h.lt hi hany hx e (by omega);have hm:=(hsm 1 (by omega)).2 hk;have hw:=hS.up.ji.wt p x hx 1 (by omega)
   have hb:0<=(x 1).SO/\(x 1).SO<m.Maps.length:=by
    rcases hw with hw|hw|hw
    ·grind [oO]
    ·omega
    ·exact hw.2.2
   rw [h.Ug];refine f9 (OK.get (by grind) (by grind) (λmp hmp=> ?_));obtain ⟨l,hl,_⟩:=DN ⟨n,by omega⟩;have hl':xT 2199023255552 i.SU=some l:=by rw [hn];exact hl
   rw [hl'];simp only [zbs];refine d6 (R:=λ_=>True) (d5 (λ_=>b9 trivial) (λ_=>b9 trivial)) (λv _=>b9 ⟨.asks e (by omega) rfl rfl ?_ rfl ⟨zmg hmp,s6 h4⟩,h.SB⟩);have:=hrun (steps:=w64 (M.steps+1)) (state:=1);rw [h.Ug] at this;exact this
  ·have h5:n=5\/n=6:=by rw [s2'] at ha;have:=yu ha;omega
   refine d6 (R:=λo=>(o.2.RZ=1\/o.2.RZ=3)/\o.2.Pc=(p:Int)/\o.1.state=0/\Pw m j M ⟨o.1.Sz,o.1.module,o.1.SY,o.1.regs,o.1.LE,w64 (o.1.SB+1),o.1.steps,o.1.state⟩ p) ?_ (λo ho=>b9 ⟨.goes ho.1 ho.2.2.1 ho.2.2.2,ho.2.1⟩);refine d5 (λe5=> ?_) (λe5=>b9 ⟨.inr rfl,h.SB,h0,sT hS h hi e (λs hs=> ?_) h.Sy⟩)
   ·have e5:n=5:=by
     grind
    refine d6 (Nc _ _) (λv hv=>b9 ⟨.inl rfl,h.SB,h0,sT hS h hi e (S:=⟨M.SY.Tb,v.2.2⟩) (λs hs=> ?_) h.Sy⟩);rw [s1'] at hs;cases hs;have:=s4 (.inr (.inr e5));exact ⟨hv.1,by have:=hv.2;omega⟩
   grind
 refine d5 (λe=> ?_) (λe22=> ?_)
 ·have e:i.Op=22:=by simpa using e
  rw [F7 hA.1 hA.2];exact b9 ⟨.ends e rfl rfl hrun,h.SB⟩
 have e21:i.Op≠21:=by simpa using e21
 have e22:i.Op≠22:=by simpa using e22
 refine d6 (Pv hS (hrun (steps:=w64 (M.steps+1)) (state:=M.state)) hi e21 e22) (λr hr=>b9 ⟨.goes (.inl rfl) (by show r.2.state=0;rw [hr.st];exact h0) ?_,h.SB⟩)
 exact EP hS hrun hi hr
theorem Ko{h:Int}{r:zk}(hv:u64 r.SV):OK (gw h r) (λv=>u64 v/\(h=1\/h=2\/h=3->v<=1)):=by
 unfold gw;refine d6 (R:=λo=>o=true↔h=0\/h=4) ?_ (λo ho=> ?_)
 ·refine d5 (λe=>b9 ?_) (λe=>b9 ?_)
  ·grind
  grind
 refine d5 (λe=>b9 ⟨hv,λh3=>by grind⟩) (λ_=> ?_);refine d6 (R:=λ_=>True) (d5 (λ_=>b9 trivial) (λ_=>b9 trivial)) (λo _=> ?_);have z:u64 0/\(h=1\/h=2\/h=3->(0:Int)<=1):=⟨⟨by simp,by simp⟩,λ_=>by simp⟩
 have o1:u64 1/\(h=1\/h=2\/h=3->(1:Int)<=1):=⟨⟨by simp,by simp⟩,λ_=>by simp⟩
 exact d5 (λ_=>d5 (λ_=>b9 o1) (λ_=>b9 z)) (λ_=>d5 (λ_=>d5 (λ_=>b9 o1) (λ_=>b9 z)) (λ_=>b9 z))
theorem HM(hS:Ba m j){p:Nat}(h:Run m j M p)(h1:M.state=1)(hi:m.Code[p]? =some i)(ho:i.Op=21)(h4:i.SU<=4){res:zk}(hres:u64 res.SV):
  OK (ml M res) (λr=>r.1=0/\r.2.state=0/\Pw m j M r.2 p):=by
 have hr:=hS.TF.Th.right hi;have him:=mi hr ho
 have hi2:idx M.module.Code M.SB=some i:=by
  rw [h.Ug,h.SB];obtain ⟨x,hx1,hx2⟩:=aJ h.lt
  grind
 unfold ml;refine d5 (λe=>by grind) (λ_=> ?_);rw [hi2];simp only [zbs];refine d6 (Ko hres) (λv hv=>b9 ⟨rfl,rfl,sT hS h hi ho (λs hs=> ?_) h.Sy⟩);obtain ⟨n,hn⟩:=zof him.1;obtain ⟨sg,s1,s2,s3,s4,s5,s6⟩:=HL ⟨n,by omega⟩;have s1':cU i.SU=some (sg,true):=by rw [hn];exact s1
 rw [s1'] at hs;cases hs;have hv1:=hv.1.1;have hv2:=hv.1.2
 grind
theorem Nd{l:List Int}(h:l.length*8<=140737488355328):jf l=some l:=by
 grind [jf,room]
theorem Ng{l:List zf}(h:l.length*40<=140737488355328):zS l=some l:=by
 grind [zS,room]
theorem mc(m:zC):∃o p e,jX 2199023255552 m=some (o,p,e)/\((e≠0/\o=none)\/(e=0/\p=0/\∃j,o=some j/\Ba m j)):=by
 obtain ⟨⟨o,p,e⟩,h1,h2⟩:=BG m;refine ⟨o,p,e,h1,?_⟩;by_cases he:e=0
 ·subst he;obtain ⟨j,hj,a,b,c,d⟩:=Qp (BT m) h1 rfl;exact .inr ⟨rfl,(h2.TF rfl).1,j,hj,⟨a,b,c,d⟩⟩
 ·exact .inl ⟨he,h2.bad he⟩
theorem wA{o:Option zj}{p e:Int}(h:jX 2199023255552 m=some (o,p,e)):vp 2199023255552 m=some (p,e):=by
 unfold vp;rw [h];cases o<;>rfl
def Ma(m:zC)(E:qv)(C:jq):EM:=⟨E,m,⟨⟨λ_=>0⟩,C⟩,λ_=>0,λ_=>0,0,0,0⟩
theorem Rl(hS:Ba m j){E:qv}(hE:u64 E.A/\u64 E.B)(C:jq):Run m j (Ma m E C) 0:=by
 have hn1:=hS.TF.n1;refine ⟨rfl,rfl,hn1,hS.snd.zero _ (λr _=>⟨by simp [Ma],by simp [Ma]⟩),λr _=>⟨by simp [Ma],by simp [Ma]⟩,λa i ha ho=> ?_,λt=>⟨by simp [Ma],by simp [Ma]⟩,hE⟩
 ·have:=hS.TF.Th.loop ha ho
  grind [Ma]
end
open Go.Sx
def P0(b:List Int)(r:Int×Int×Int):Prop:=0<=r.1/\0<=r.2.1/\r.2.1<=b.length
theorem fX{x:Int}(h: -9223372036854775808<=x)(h2:x<9223372036854775808):w64 x=x:=qt h (by omega)
theorem Mn{b:List Int}(hb:b.length<=140737488355328):OK (px b) (P0 b):=by
 unfold px;refine d6 (i4 (Q:=λo=>match o with|.inl _=>True|.inr r=>P0 b r) (λi s=>i<=9/\0<=s) ⟨by omega,by omega⟩ (λi s again hi hI k=> ?_) (λs hI=>trivial)) (λo ho=> ?_)
 ·unfold uH;refine i7 hi (λx hx=> ?_) |> f9
  refine d5 (λ_=>b9 ⟨by simp,by simp,by simp⟩) (λhc=> ?_);have h7:w64 (7*(i:Int))=7*(i:Int):=fX (by omega) (by omega);rw [h7,fd (by omega)];simp only [zbs];have hr:=BU s (wd .u64 (xS (wc .u8 x 127)) (7*(i:Int)));refine d5 (λhlt=>b9 ⟨hr.1,?_,?_⟩) (λhge=>k _ ⟨?_,hr.1⟩)
  ·grind [fX]
  ·grind [fX]
  grind
 ·cases o with
  |inl _=>exact b9 ⟨by simp,by simp,by simp⟩
  |inr r=>exact b9 ho
theorem IZ{b:List Int}(hb:b.length<=140737488355328):OK (kr b) (λr=>0<=r.2.1/\r.2.1<=b.length):=by
 unfold kr;refine d6 (Mn hb) (λr hr=>b9 ⟨hr.2.1,hr.2.2⟩)
structure RI (b:List Int) (r:zw):Prop where
 eb:r.b=b
 lo:0<=r.SB
 hi:r.SB<=b.length+1
 ok:r.e=0->r.SB<=b.length
theorem oa{b:List Int}{r:zw}(h:RI b r){e:Int}(he:e≠0):OK (qD r e) (λr'=>RI b r'/\r'.e≠0):=by
 unfold qD;refine d5 (λ_=>b9 ⟨{h with ok:=λe0=>absurd e0 he},he⟩) (λhn=>b9 ⟨h,by simpa using hn⟩)
theorem Lb{b:List Int}(hb:b.length<=140737488355328):OK (aF 2199023255552 ⟨b,0,0,0⟩) (RI b):=by
 unfold aF;refine d6 (OK.rounds (Q:=RI b) (RI b) (λs=>(3-s.SB).toNat) ?_ 2199023255552 _ ⟨rfl,by simp,by simp;omega,λ_=>by simp⟩ (by simp)) (λ_ h=>b9 h);intro s again h k;unfold fU;refine d5 (λhc=> ?_) (λ_=>b9 h);simp only [zae,zdq,t8] at hc;have h1:=h.lo;have h2:=h.ok hc.2;have hw:w64 (s.SB+1)=s.SB+1:=fX (by omega) (by omega);have hI:RI b {s with field:=s.SB}:=⟨h.eb,h.lo,h.hi,h.ok⟩
 refine d6 (R:=λo=>o.b=b/\o.SB=s.SB/\(o.e=0->s.SB<b.length)) ?_ (λo ho=> ?_)
 ·refine d5 (λhge=> ?_) (λhlt=> ?_)
  ·unfold qD;refine d6 (R:=λo=>o.b=b/\o.SB=s.SB/\o.e≠0) (d5 (λ_=>b9 ⟨h.eb,rfl,show (_:Int)≠0 from (by simp)⟩) (λhn=>b9 ⟨h.eb,rfl,by simpa using hn⟩)) (λo ho=>b9 ⟨ho.1,ho.2.1,λe=>absurd e ho.2.2⟩)
  ·have hlt':s.SB<b.length:=by
    have e:=h.eb
    grind
   refine f9 (OK.get h1 (by grind) (λx hx=> ?_))
   have hs:∃c,ue (⟨[84,80,1].toArray⟩) s.SB=some c:=by
    have:s.SB=0\/s.SB=1\/s.SB=2:=by omega
    rcases this with e|e|e<;>rw [e]<;>exact ⟨_,rfl⟩
   obtain ⟨c,hs⟩:=hs;rw [hs];simp only [zbs];refine d5 (λ_=> ?_) (λ_=>b9 ⟨h.eb,rfl,λ_=>hlt'⟩);unfold qD;refine d6 (R:=λo=>o.b=b/\o.SB=s.SB/\o.e≠0) (d5 (λ_=>b9 ⟨h.eb,rfl,show (_:Int)≠0 from (by simp)⟩) (λhn=>b9 ⟨h.eb,rfl,by simpa using hn⟩)) (λo ho=>b9 ⟨ho.1,ho.2.1,λe=>absurd e ho.2.2⟩)
 ·obtain ⟨h3,h4,h5⟩:=ho;rw [h4,hw];exact k _ ⟨h3,by simp;omega,by simp;omega,λe=>by grind⟩ (by simp;omega)
theorem gZ{b:List Int}(hb:b.length<=140737488355328){r:zw}(h:RI b r){m e:Int}(h0:0<=m)(hm:m<1000)(he:e≠0):
  OK (jc r m e) (λp=>RI b p.2/\0<=p.1/\p.1<=m):=by
 unfold jc;refine d5 (λhc=>b9 ⟨h,by simp,by simpa using h0⟩) (λhc=> ?_);have e0:r.e=0:=by simpa using hc
 have h1:=h.lo;have h2:=h.ok e0;rw [h.eb]
 have hcut:cut b r.SB (b.length:Int)=some (b.drop r.SB.toNat):=by
  unfold cut;rw [d7 ⟨h1,by omega,by omega⟩];simp
 rw [hcut];simp only [zbs];refine d6 (Mn (by simp;omega)) (λg hg=> ?_);have hg2:=hg.2.2;have hg1:=hg.2.1;simp only [List.length_drop] at hg2;have hw:w64 (r.SB+g.2.1)=r.SB+g.2.1:=fX (by omega) (by omega);rw [hw];have hI:RI b ⟨b,r.SB+g.2.1,r.SB,r.e⟩:=⟨rfl,by simp;omega,by simp;omega,λ_=>by simp;omega⟩
 refine d5 (λhbad=> ?_) (λ_=>d5 (λ_=> ?_) (λhle=>b9 ⟨hI,?_,?_⟩))
 ·grind [d6,oa,b9]
 ·grind [d6,oa,b9]
 ·have:g.1<=m:=by simpa using hle
  rw [fX (by have:=hg.1;omega) (by omega)];exact hg.1
 ·have:g.1<=m:=by simpa using hle
  rw [fX (by have:=hg.1;omega) (by omega)];exact this
theorem I0(i:zf):OK (fw [i]) (λ_=>True):=by
 unfold fw;refine d6 (i4 (Q:=λ_=>True) (λ_ _=>True) trivial (λj s again hj _ k=> ?_) (λ_ _=>trivial)) (λo _=> ?_)
 ·unfold lT;refine f9 (i7 hj (λx hx=> ?_));rw [fc];simp only [zbs];exact d5 (λ_=>b9 trivial) (λ_=>k _ trivial)
 grind [b9]
theorem N6{b:List Int}(hb:b.length<=140737488355328){r:zw}(h:RI b r):OK (aZ r) (λp=>RI b p.2):=by
 unfold aZ;refine d6 (gZ hb h (by decide) (by decide) (by decide)) (λa ha=> ?_);refine d6 (gZ hb ha.1 (by decide) (by decide) (by decide)) (λc hc=> ?_);refine d6 (gZ hb hc.1 (by decide) (by decide) (by decide)) (λd hd=> ?_);refine d6 (gZ hb hd.1 (by decide) (by decide) (by decide)) (λf hf=> ?_);have hF:=hf.1;refine d5 (λ_=>b9 hF) (λhc0=> ?_);have e0:f.2.e=0:=by simpa using hc0
 have h1:=hF.lo;have h2:=hF.ok e0;rw [hF.eb]
 have hcut:cut b f.2.SB (b.length:Int)=some (b.drop f.2.SB.toNat):=by
  unfold cut;rw [d7 ⟨h1,by omega,by omega⟩];simp
 rw [hcut];simp only [zbs];refine d6 (IZ (by simp;omega)) (λg hg=> ?_);have hg2:=hg.2;have hg1:=hg.1;simp only [List.length_drop] at hg2;have hw:w64 (f.2.SB+g.2.1)=f.2.SB+g.2.1:=fX (by omega) (by omega);rw [hw];have hI:∀q,RI b ⟨b,f.2.SB+g.2.1,q,f.2.e⟩:=λq=>⟨rfl,by simp;omega,by simp;omega,λ_=>by simp;omega⟩
 refine d5 (λhbad=> ?_) (λ_=>d6 (I0 _) (λt _=>d5 (λ_=> ?_) (λ_=>b9 (hI _))))
 ·grind [d6,oa,b9]
 grind [d6,oa,b9]
theorem I1{b:List Int}(hb:b.length<=140737488355328):OK (dI 2199023255552 b) (λr=>r.2.2=0->th r.1.Maps/\r.1.Code.length<=64):=by
 unfold dI;refine d6 (Lb hb) (λr0 h0=> ?_);refine d6 (gZ hb h0 (by decide) (by decide) (by decide)) (λn hn=> ?_)
 refine d6 (OK.rounds (Q:=λo=>RI b o.1/\(∀x∈o.2,0<=x/\x<4)/\o.2.Nodup/\(o.2.length:Int)<=4)
  (λs=>RI b s.1/\(∀x∈s.2.1,0<=x/\x<4)/\s.2.1.Nodup/\s.2.2=s.2.1.length/\s.2.2<=n.1) (λs=>(n.1-s.2.2).toNat) ?_ 2199023255552 _ ?_ ?_) (λo ho=> ?_)
 ·intro s again h k;obtain ⟨h1,h2,h3,h4,h5⟩:=h;unfold nq;refine d5 (λhc=> ?_) (λ_=>b9 ⟨h1,h2,h3,by simp;omega⟩);have hlt:s.2.2<n.1:=by simpa using hc
  refine d6 (gZ hb h1 (by decide) (by decide) (by decide)) (λq hq=> ?_);rw [tg];simp only [zbs];refine d6 (R:=λo=>RI b o/\(o.e=0->q.1∉s.2.1)) (d5 (λhct=>d6 (oa hq.1 (by decide)) (λz hz=>b9 ⟨hz.1,λe=>absurd e hz.2⟩)) (λhct=>b9 ⟨hq.1,λ_=>by simpa using hct⟩)) (λo ho=> ?_);refine d5 (λ_=>b9 ⟨ho.1,h2,h3,by simp;omega⟩) (λhe=> ?_)
  grind [f9,OK.hasRoom,w64,fX]
 ·grind
 ·grind
 refine d6 (gZ hb ho.1 (by decide) (by decide) (by decide)) (λc hc=> ?_);refine d6 (R:=RI b) (d5 (λ_=>d6 (oa hc.1 (by decide)) (λz hz=>b9 hz.1)) (λ_=>b9 hc.1)) (λr2 h2=> ?_);refine d6 (OK.rounds (Q:=λo=>RI b o.1/\(o.2.length:Int)<=64) (λs=>RI b s.1/\s.2.2=s.2.1.length/\s.2.2<=c.1) (λs=>(c.1-s.2.2).toNat) ?_ 2199023255552 _ ?_ ?_) (λo2 ho2=> ?_)
 ·intro s again h k;obtain ⟨h1,h3,h4⟩:=h;have hc2:=hc.2.2;unfold ns;refine d5 (λhcc=> ?_) (λ_=>b9 ⟨h1,by simp;omega⟩);simp only [zae,zdq,t8] at hcc;refine d6 (N6 hb h1) (λq hq=> ?_)
  grind [f9,OK.hasRoom,w64,fX]
 ·grind
 ·grind
 refine d6 (R:=λ_=>True) (d5 (λhcc=>d6 (oa (b:=b) (r:=⟨o2.1.b,o2.1.SB,o2.1.SB,o2.1.e⟩) ⟨ho2.1.eb,ho2.1.lo,ho2.1.hi,ho2.1.ok⟩ (e:=13) (by decide)) (λz hz=>b9 trivial)) (λ_=>b9 trivial)) (λr3 _=> ?_);refine d5 (λhe=>b9 (λh=> ?_)) (λ_=>b9 (λ_=>⟨⟨ho.2.1,ho.2.2.1,by grind⟩,by grind⟩))
 grind
open Go.Sx
variable {α:Type} {m:List (Int×α)}
def goodM(k:Int)(ms:List Int):Prop:=ms.Nodup/\∀m∈ms,0<=m/\m<k
theorem goodM.take{k:Int}{ms:List Int}(h:goodM k ms)(i:Nat):goodM k (ms.take i):=
 ⟨h.1.sublist (List.take_sublist _ _),λm hm=>h.2 m (z9 hm)⟩
theorem pH{k:Int}{ms:List Int}{x:Int}(h:goodM k (ms++[x])):0<=x/\x<k/\x∉ms:=by
 have h2:=h.2 x (by simp);have h1:=k7.1 h.1
 grind
theorem ep{ms:List Int}{i:Nat}{x:Int}(h:ms[i]? =some x):ms.take (i+1)=ms.take i++[x]:=by
 rw [x7,h];rfl
theorem Iw(p0:zZ)(p2:List Int):OK (jN (eZ p0 p2) (λ(s:Unit)=>(.inl ())) p2.length 0 ()) (λo=>match o with|.inl _=>goodM p0.maps p2|.inr r=>r=(2,p0)/\¬ goodM p0.maps p2):=by
 refine i4 (λi _=>goodM p0.maps (p2.take i)) ⟨by simp,by simp⟩ ?_ ?_
 ·intro i s again hi h k;unfold eZ;refine f9 (i7 hi (λx hx=> ?_))
  have bad:(goodM p0.maps (p2.take (i+1))->False)->OK (some (Sum.inr (2,p0):Unit⊕(Int×zZ))) (λo=>match o with|.inl _=>goodM p0.maps p2|.inr r=>r=(2,p0)/\¬ goodM p0.maps p2):=
   λhb=>b9 ⟨rfl,λhg=>hb (hg.take _)⟩
  have ts:=ep hx;refine f9 (d5 (λh1=>b9 ?_) (λh1=>d5 (λh2=>b9 ?_) (λh2=> ?_)))
  ·simp only [q9];refine bad (λhg=> ?_);rw [ts] at hg;have:=pH hg;simp at h1;omega
  ·simp only [q9];refine bad (λhg=> ?_);rw [ts] at hg;have:=pH hg;simp at h2;omega
  ·rw [wF (by omega)];simp only [zbs,hY];refine b9 ?_;simp only [zdq];split
   ·rename_i hc
    refine bad (λhg=> ?_);rw [ts] at hg;exact (pH hg).2.2 hc
   ·rename_i hc
    refine k _ ?_;rw [ts];simp at h1 h2;refine ⟨k7.2 ⟨h.1,by simp,λa ha b hb e=> ?_⟩,λm hm=> ?_⟩
    ·grind
    ·rcases i5.1 hm with hm|hm
     ·exact h.2 m hm
     grind
 grind
theorem E6(xs:List Int)(h:xs.length*8<=140737488355328):jf xs=some xs:=by
 grind [jf,room]
open Classical in
theorem NN(p0:zZ)(p:Int)(ms:List Int)(h:ms.length*8<=140737488355328):
  di p0 p ms=some (if goodM p0.maps ms then (if (jB p0.held p).isSome then (42,p0) else (0,⟨p0.maps,mput p0.held p ms⟩)) else (2,p0)):=by
 obtain ⟨o,h1,h2⟩:=Iw p0 ms
 grind [di,jB,E6]
def mdels{α:Type}(m:List (Int×α)):List Int->List (Int×α)
 |[]=>m
 |p::r=>mdels (mdel m p) r
theorem uU(m:List (Int×α))(l:List Int)(p:Int):mdels m (l++[p])=mdel (mdels m l) p:=by
 induction l generalizing m with
 |nil=>rfl
 |cons q r ih=>exact ih _
theorem NO(p0:zZ)(ps:List Int):OK (jN (eW p0 ps) (λ(s:Unit)=>(.inl ())) ps.length 0 ()) (λo=>match o with|.inl _=>ps.Nodup|.inr r=>r=(2,p0)/\¬ ps.Nodup):=by
 refine i4 (λi _=>(ps.take i).Nodup) (by simp) ?_ ?_
 ·intro i s again hi h k;unfold eW;refine f9 (i7 hi (λx hx=> ?_));have ts:=ep hx;rw [wF (by omega)];simp only [zbs,hY];refine d5 (λhc=>b9 ⟨rfl,λhn=> ?_⟩) (λhc=>k _ ?_)
  ·have:=hn.sublist (List.take_sublist (i+1) ps)
   grind
  grind
 grind
theorem NP(p0:zZ)(ps:List Int):OK (jN (eX p0 ps) (λ(s:Unit)=>(.inl ())) ps.length 0 ()) (λo=>match o with|.inl _=>∀p∈ps,(jB p0.held p).isSome=true|.inr r=>r=(41,p0)/\¬ ∀p∈ps,(jB p0.held p).isSome=true):=by
 refine i4 (λi _=>∀p∈ps.take i,(jB p0.held p).isSome=true) (by simp) ?_ ?_
 ·intro i s again hi h k;unfold eX;refine f9 (i7 hi (λx hx=> ?_));refine d5 (λhc=>b9 ⟨rfl,λhn=> ?_⟩) (λhc=>k _ ?_)
  ·grind
  ·rw [ep hx]
   grind
 grind
theorem NQ(ps:List Int)(p0:zZ):jN (eY ps) (λ(s:zZ)=>s) ps.length 0 p0=some ⟨p0.maps,mdels p0.held ps⟩:=by
 refine OK.is (i4 (λi s=>s=⟨p0.maps,mdels p0.held (ps.take i)⟩) rfl ?_ ?_)
 ·rintro i s again hi rfl k;unfold eY;refine f9 (i7 hi (λx hx=>k _ ?_));rw [ep hx,uU]
 grind
open Classical in
theorem NR(p0:zZ)(ps:List Int):bz p0 ps=some (if ps.Nodup then (if ∀p∈ps,(jB p0.held p).isSome=true then (0,⟨p0.maps,mdels p0.held ps⟩) else (41,p0)) else (2,p0)):=by
 obtain ⟨o,h1,h2⟩:=NO p0 ps;unfold bz;rw [h1];rcases o with u|r
 ·obtain ⟨o,h3,h4⟩:=NP p0 ps
  grind [NQ]
 grind
theorem tq(m:List (Int×α))(k:Int)(x:α)(q:Int):jB (mput m k x) q=if k=q then some x else jB m q:=by
 induction m with
 |nil=>simp [mput,jB]
 |cons p m ih=>
  grind [mput,jB]
theorem KQ(m:List (Int×α))(k:Int):(mdel m k).length<=m.length:=by
 induction m with
 |nil=>simp [mdel]
 |cons p m ih=>
  grind [mdel]
theorem Ix(ps:List Int)(m:List (Int×α)):(mdels m ps).length<=m.length:=by
 induction ps generalizing m with
 |nil=>exact l6 _
 |cons p r ih=>exact s9 (ih _) (KQ _ _)
theorem KS(m:List (Int×α))(k:Int)(x:α):(mput m k x).length<=m.length+1:=by
 induction m with
 |nil=>simp [mput]
 |cons p m ih=>
  grind [mput]
def E7(m:List (Int×α)):Prop:=(m.map (·.1)).Nodup
theorem BN{k:Int}:jB m k=none↔k∉m.map (·.1):=by
 induction m with
 |nil=>simp [jB]
 |cons p m ih=>
  grind [jB]
theorem wW{k:Int}{x:α}(h:jB m k=none):mput m k x=m++[(k,x)]:=hU h
theorem E7.mput{α:Type}{m:List (Int×α)}(h:E7 m){k:Int}{x:α}(hn:jB m k=none):E7 (mput m k x):=by
 rw [wW hn];unfold E7;rw [u5];refine k7.2 ⟨h,by simp,λa ha b hb e=> ?_⟩;simp at hb;subst hb;subst e;exact BN.1 hn ha
theorem Iy(m:List (Int×α))(k:Int):(mdel m k).Sublist m:=by
 induction m with
 |nil=>exact List.Sublist.refl _
 |cons p m ih=>
  grind [mdel]
theorem E7.mdel{α:Type}{m:List (Int×α)}(h:E7 m)(k:Int):E7 (mdel m k):=h.sublist ((Iy m k).map _)
theorem Iz(h:E7 m)(k q:Int):jB (mdel m k) q=if k=q then none else jB m q:=by
 induction m with
 |nil=>simp [Sx.mdel,jB]
 |cons p m ih=>
  have hn:=r9.1 (show (p.1::m.map (·.1)).Nodup from h);unfold Sx.mdel;by_cases e:p.1==k
  ·have e':p.1=k:=by simpa using e
   rw [d7 e];by_cases e2:k=q
   ·rw [d7 e2];subst e2;exact BN.2 (by grind)
   grind [jB]
  ·have e':p.1≠k:=by simpa using e
   rw [d8 e];unfold jB;by_cases e3:p.1==q
   ·grind
   ·rw [d8 e3,d8 e3];exact ih hn.2
end
open Go.Sx
variable {α β:Type} {M W:Nat}
theorem BO(m:List (Int×α))(k:Int)(x:α)(q:Int):jB (ud m k x) q=if k=q/\(jB m k).isSome then some x else jB m q:=by
 induction m with
 |nil=>simp [ud,gp,jB]
 |cons p m ih=>
  by_cases h:p.1=k
  ·grind [ud,gp,jB]
  grind [ud,gp,jB]
theorem E8(m:List (Int×α))(k:Int)(x:α):(ud m k x).map (·.1)=m.map (·.1):=by
 induction m with
 |nil=>simp [ud,gp]
 |cons p m ih=>
  grind [ud,gp]
theorem KT(m:List (Int×α))(k:Int)(x:α):(ud m k x).length=m.length:=by
 have:=congrArg List.length (E8 m k x)
 simpa using this
theorem IA(f:α->β)(m:List (Int×α))(k:Int)(x y:α)(h:jB m k=some y)(hf:f x=f y):(ud m k x).map (λp=>(p.1,f p.2))=m.map (λp=>(p.1,f p.2)):=by
 induction m with
 |nil=>simp [ud,gp]
 |cons p m ih=>
  grind [jB,ud,gp]
theorem KU(f:α->β)(m:List (Int×α))(k:Int):(mdel m k).map (λp=>(p.1,f p.2))=mdel (m.map (λp=>(p.1,f p.2))) k:=by
 induction m with
 |nil=>rfl
 |cons p m ih=>
  grind [mdel]
theorem KV(f:α->β)(m:List (Int×α))(k:Int):jB (m.map (λp=>(p.1,f p.2))) k=(jB m k).map f:=by
 induction m with
 |nil=>rfl
 |cons p m ih=>
  grind [jB]
theorem KW{m:List (Int×α)}{k:Int}{x:α}(h:jB m k=some x):(k,x)∈m:=by
 grind [eC]
structure fk (H M W:Nat) (n:Nat) (r:zb):Prop where
 Sh:r.Sh=H
 hl:r.Sr.Sh.length=H
 maps:r.maps=M
 Ui:r.Tl.maps=M
 wk:r.Sq.in_.length=W
 TY:H<=4/\M<=4/\W<=4
 Tg:n<=1000000000
 Uc:0<=r.given
 given:r.given<=n
 TZ:0<=r.Sr.SH.last
 last:r.Sr.SH.last<=n
 Ua:1<=r.Sq.TC
 TC:r.Sq.TC<=n+1
 Uw:∀e∈r.Sq.in_,0<=e/\e<=r.Sq.TC
 Tk:E7 r.Su
 len:r.Su.length<=16
 prog:∀p x,jB r.Su p=some x->1<=p/\p<=r.given/\th x.module.Maps/\(∀m∈x.module.Maps,m<M)/\x.module.Code.length<=64/\0<=x.SR/\x.SR<=r.Sq.TC
 held:r.Tl.held=r.Su.map (λp=>(p.1,p.2.module.Maps))
 UF:r.waiting.Nodup
 Uf:∀p,p∈r.waiting↔∃x,jB r.Su p=some x/\0<x.SR
theorem fk.mono{H n n':Nat}{r:zb}(h:fk H M W n r)(hn:n<=n')(hb:n'<=1000000000):fk H M W n' r:=
 {h with Tg:=hb,given:=by have:=h.given;omega,last:=by have:=h.last;omega,TC:=by have:=h.TC;omega}
theorem fk.wlen{H n:Nat}{r:zb}(h:fk H M W n r):r.waiting.length<=r.Su.length:=by
 have hsub:r.waiting ⊆ r.Su.map (·.1):=λp hp=>by
  obtain ⟨x,hx,_⟩:=(h.Uf p).1 hp;exact List.mem_map_of_mem (f:=λ(q:Int×zT)=>q.1) (KW hx)
 have:=List.Nodup.length_le_of_subset h.UF hsub
 simpa using this
theorem PS{H:Nat}(hH:1<=H)(hH4:H<=4)(hM:M<=4)(hW:1<=W)(hW4:W<=4):∃r,bN H M W=some (some r,0)/\fk H M W 0 r/\r.given=0/\r.Sr.SH.last=0/\(r.Su=[]/\∀u∈r.Sr.Sh,u.SA=0)/\r.waiting=[]/\r.Sq.in_=List.replicate W 0:=by
 have h1:iY H=some (some ⟨⟨0⟩,List.replicate H ⟨0,0⟩⟩,0):=by
  grind [iY,mkLen]
 have h2:kM M=some (some ⟨M,[]⟩,0):=by
  grind [kM]
 have h3:dU W=some (some ⟨1,List.replicate W 0⟩,0):=by
  grind [dU,mkLen]
 refine ⟨_,by unfold bN;rw [h1,h2,h3];rfl,?_,rfl,rfl,⟨rfl,λu hu=>by rw [RT hu]⟩,rfl,rfl⟩;exact {Sh:=rfl,hl:=by simp,maps:=rfl,Ui:=rfl,wk:=by simp,TY:=⟨hH4,hM,hW4⟩,Tg:=by omega,Uc:=by simp,given:=by simp,TZ:=by simp,last:=by simp,Ua:=by simp,TC:=by simp,Uw:=λe he=>by grind,Tk:=l8,len:=by simp,prog:=λp x hx=>by simp [jB] at hx,held:=rfl,UF:=l8,Uf:=λp=>by simp [jB]}
theorem NS{h m w:Int}(hb:¬ (1<=h/\h<=4/\0<=m/\m<=4/\1<=w/\w<=4)):bN h m w=some (none,2):=by
 unfold bN iY kM dU;by_cases h1:1<=h/\h<=4
 ·have e1:mkLen h 16=some h.toNat:=by unfold mkLen;rw [d7 ⟨by omega,by omega⟩]
  rw [d8 (by simp;omega),e1];by_cases h2:0<=m/\m<=4
  ·rw [d8 (by simp;omega)];rw [d7 (by simp;omega)];rfl
  ·rw [d7 (by simp;omega)];by_cases h3:1<=w/\w<=4
   ·have e3:mkLen w 8=some w.toNat:=by unfold mkLen;rw [d7 ⟨by omega,by omega⟩]
    rw [d8 (by simp;omega),e3];rfl
   ·rw [d7 (by simp;omega)];rfl
 ·rw [d7 (by simp;omega)];by_cases h2:0<=m/\m<=4
  ·rw [d8 (by simp;omega)];by_cases h3:1<=w/\w<=4
   ·have e3:mkLen w 8=some w.toNat:=by unfold mkLen;rw [d7 ⟨by omega,by omega⟩]
    rw [d8 (by simp;omega),e3];rfl
   ·rw [d7 (by simp;omega)];rfl
  ·rw [d7 (by simp;omega)];by_cases h3:1<=w/\w<=4
   ·have e3:mkLen w 8=some w.toNat:=by unfold mkLen;rw [d7 ⟨by omega,by omega⟩]
    rw [d8 (by simp;omega),e3];rfl
   ·rw [d7 (by simp;omega)];rfl
end
open Go.Sx
variable {H M W n:Nat} {r:zb}
def nX(maps:Int)(b:List Int):Option (zC×Int):=(dI 2199023255552 b).bind λd=>if d.2.2 !=0 then some (d.1,d.2.2) else
 (vp 2199023255552 d.1).bind λj=>if j.2 !=0 then some (d.1,j.2) else some (d.1,if d.1.Maps.any (λx=>decide (maps<=x)) then 41 else 0)
theorem Ga(maps:Int){b:List Int}(hb:b.length<=140737488355328):OK (nX maps b) (λv=>v.2=0->th v.1.Maps/\(∀x∈v.1.Maps,x<maps)/\v.1.Code.length<=64):=by
 unfold nX;have hd0:=I1 hb;refine d6 hd0 (λd hd=>d5 (λhe=>b9 (λe=>absurd e (by simpa using he))) (λhe=> ?_));have hg:=hd (by simpa using he);refine d6 (KL d.1) (λj _=>d5 (λhe=>b9 (λe=>absurd e (by simpa using he))) (λ_=>b9 (λe=>⟨hg.1,λx hx=> ?_,hg.2⟩)))
 grind
def added(r:zb)(m:zC):zb:={r with Tl:=⟨r.Tl.maps,mput r.Tl.held (r.given+1) m.Maps⟩,given:=r.given+1,Su:=mput r.Su (r.given+1) ⟨m,0⟩}
theorem tr(h:fk H M W n r):jB r.Su (r.given+1)=none:=by
 cases hg:jB r.Su (r.given+1) with
 |none=>rfl
 |some x=>have:=(h.prog _ _ hg).2.1;omega
theorem E9(h:fk H M W n r)(p:Int):jB r.Tl.held p=(jB r.Su p).map (·.module.Maps):=by rw [h.held];exact KV (λ(x:zT)=>x.module.Maps) _ _
theorem NT(r:zb)(d:zC×Int×Int):OK (jN (vV r d) (λ(s:Unit)=>(.inl ())) d.1.Maps.length 0 ()) (λo=>match o with|.inl _=>∀x∈d.1.Maps,x<r.maps|.inr q=>q=(0,41,r)/\¬ ∀x∈d.1.Maps,x<r.maps):=by
 refine i4 (λi _=>∀x∈d.1.Maps.take i,x<r.maps) (by simp) ?_ ?_
 ·intro i s again hi hI k;unfold vV;refine f9 (i7 hi (λx hx=>d5 (λhc=>b9 ⟨rfl,λhall=> ?_⟩) (λhc=>k _ ?_)))
  ·have:=hall x (zmg hx);simp at hc;omega
  ·intro y hy;rw [ep hx] at hy
   grind
 grind
theorem NU(h:fk H M W n r){b:List Int}{v:zC×Int}(hv:nX r.maps b=some v)(hok:v.2=0->th v.1.Maps/\(∀x∈v.1.Maps,x<r.maps)/\v.1.Code.length<=64):
  ju 2199023255552 r b=some (if v.2≠0 then (0,v.2,r) else if 16<=r.Su.length then (0,40,r) else (r.given+1,0,added r v.1)):=by
 unfold nX at hv;unfold ju;cases hd:dI 2199023255552 b with
 |none=>rw [hd] at hv;simp at hv
 |some d=>
  rw [hd] at hv;simp only [zbs] at hv |-;by_cases he:d.2.2=0
  ·rw [d8 (by simp [he])] at hv |-;cases hj:vp 2199023255552 d.1 with
   |none=>rw [hj] at hv;simp at hv
   |some j=>
    rw [hj] at hv;simp only [zbs] at hv |-;by_cases hje:j.2=0
    ·rw [d8 (by simp [hje])] at hv |-;simp only [g9] at hv;obtain ⟨o,h1,h2⟩:=NT r d;rw [h1];simp only [zbs];cases o with
     |inr q=>
      grind
     |inl u=>
      have:d.1.Maps.any (λx=>decide (r.maps<=x))=false:=by
       grind
      rw [this] at hv;subst hv;have hgood:=hok rfl;simp only;by_cases hl:16<=r.Su.length
      ·grind
      ·rw [d8 (by simp;omega)];have hg0:=h.Uc;have hg1:=h.given;have hb:=h.Tg;have hw:w64 (r.given+1)=r.given+1:=fX (by omega) (by omega);have hgm:goodM r.Tl.maps d.1.Maps:=⟨hgood.1.2.1,λm hm=>⟨(hgood.1.1 m hm).1,by rw [h.Ui,<- h.maps];exact hgood.2.1 m hm⟩⟩
       have hnone:jB r.Tl.held (r.given+1)=none:=by grind [E9,tr]
       rw [hw,NN _ _ _ (by have:d.1.Maps.length<=4:=hgood.1.2.2;omega),d7 hgm,hnone];simp [hl,added]
    grind
  grind
theorem IB(h:fk H M W n r)(hb:n+1<=1000000000){m:zC}(hl:¬ 16<=r.Su.length)(hok:th m.Maps/\(∀x∈m.Maps,x<M)/\m.Code.length<=64):fk H M W (n+1) (added r m):=by
 have hf:=tr h;have hg0:=h.Uc;have hg1:=h.given;refine {Sh:=h.Sh,hl:=h.hl,maps:=h.maps,Ui:=h.Ui,wk:=h.wk,TY:=h.TY,Tg:=hb,Uc:=by simp [added];omega,given:=by simp [added];omega,TZ:=h.TZ,last:=by have:=h.last;simp [added];omega,Ua:=h.Ua,TC:=by have:=h.TC;simp [added];omega,Uw:=h.Uw,Tk:=h.Tk.mput hf,len:= ?_,prog:= ?_,held:= ?_,UF:=h.UF,Uf:= ?_}
 ·grind [KS,added]
 ·intro p x hx;simp only [added,tq] at hx |-;split at hx
  ·rename_i e
   cases hx
   exact ⟨by omega,by omega,hok.1,hok.2.1,hok.2.2,by simp,by have:=h.Ua;simp;omega⟩
  ·have:=h.prog p x hx
   grind
 ·simp only [added];have e2:jB r.Tl.held (r.given+1)=none:=by grind [E9]
  rw [wW hf,wW e2,h.held];simp
 ·intro p;rw [show (added r m).waiting=r.waiting from rfl,h.Uf p]
  grind [added,tq]
def Gb(r:zb)(t:zy):zb:={r with Sr:=t}
theorem BP(h:fk H M W n r)(hb:n+1<=1000000000){t:zy}(h1:t.Sh.length=H)(h2:0<=t.SH.last)(h3:t.SH.last<=n+1):fk H M W (n+1) (Gb r t):=
 {h.mono (n':=n+1) (by omega) hb with hl:=h1,TZ:=h2,last:=by simp [Gb];omega}
theorem nY{α:Type}{l:List α}{t:Int}(h0:0<=t)(h1:t<l.length):∃x,idx l t=some x/\l[t.toNat]? =some x:=by
 have hl:t.toNat<l.length:=by omega
 refine ⟨l[t.toNat],?_,zeg hl⟩;unfold idx
 grind
theorem uV(h:fk H M W n r){k p:Int}(h0:0<=k)(h1:k<H):xt r.Sr k p=some (r.Sr.SH.last+1,0,⟨⟨r.Sr.SH.last+1⟩,r.Sr.Sh.set k.toNat ⟨r.Sr.SH.last+1,p⟩⟩):=by
 have hb:=h.Tg;have hl0:=h.TZ;have hl1:=h.last;unfold xt av aV;rw [fX (by omega) (by omega)];obtain ⟨x,hx,_⟩:=nY (l:=r.Sr.Sh) h0 (by rw [h.hl];omega);simp [hx]
structure BQ (r:zb) (k p:Int) (q:Int×Int×zb):Prop where
 no:q.2.1≠0->q.1=0/\q.2.2=r
 yes:q.2.1=0->q.1=r.Sr.SH.last+1/\(∃x,jB r.Su p=some x/\x.SR=0)/\∃l,l=r.Sr.Sh.set k.toNat ⟨r.Sr.SH.last+1,p⟩/\q.2.2=Gb r ⟨⟨r.Sr.SH.last+1⟩,l⟩
 UR:0<=k->k<r.Sh->jB r.Su p=none->q.1=0/\q.2.1=41
theorem Gc(h:fk H M W n r){k p:Int}(h0:0<=k)(h1:k<H):OK (vQ r.Sr k p) (λq=>(q.2.1≠0/\q.1=0/\q.2.2=r.Sr)\/(q.2.1=0/\q.1=r.Sr.SH.last+1/\∃l,l=r.Sr.Sh.set k.toNat ⟨r.Sr.SH.last+1,p⟩/\q.2.2=⟨⟨r.Sr.SH.last+1⟩,l⟩)):=by
 unfold vQ jh jj;obtain ⟨x,hx,_⟩:=nY (l:=r.Sr.Sh) h0 (by rw [h.hl];omega);simp only [zbs,hx,uV h h0 h1];refine d5 (λ_=>b9 (.inl ⟨by simp,rfl,rfl⟩)) (λ_=>d5 (λ_=>b9 (.inl ⟨by simp,rfl,rfl⟩)) (λ_=>b9 (.inr ⟨rfl,rfl,_,rfl,rfl⟩)))
theorem KX(h:fk H M W n r){k p:Int}(h0:0<=k)(h1:k<H):OK (ba r.Sr k p) (λq=>(q.2.1≠0/\q.1=0/\q.2.2=r.Sr)\/(q.2.1=0/\q.1=r.Sr.SH.last+1/\∃l,l=r.Sr.Sh.set k.toNat ⟨r.Sr.SH.last+1,p⟩/\q.2.2=⟨⟨r.Sr.SH.last+1⟩,l⟩)):=by
 unfold ba jh jj;obtain ⟨x,hx,_⟩:=nY (l:=r.Sr.Sh) h0 (by rw [h.hl];omega);simp only [zbs,hx,uV h h0 h1];refine d5 (λ_=>b9 (.inl ⟨by simp,rfl,rfl⟩)) (λ_=>d5 (λ_=>b9 (.inl ⟨by simp,rfl,rfl⟩)) (λ_=>b9 (.inr ⟨rfl,rfl,_,rfl,rfl⟩)))
theorem tu(h:fk H M W n r)(k p:Int):OK (jC r k p) (BQ r k p):=by
 unfold jC;refine d5 (λhc=>b9 ⟨λ_=>⟨rfl,rfl⟩,λe=>by simp at e,λh0=>by simp at hc;omega⟩) (λh0=> ?_);refine d5 (λhc=>b9 ⟨λ_=>⟨rfl,rfl⟩,λe=>by simp at e,λ_ h1=>by simp at hc;omega⟩) (λh1=> ?_);have h0':0<=k:=by simp at h0;omega
 have h1':k<H:=by simp [h.Sh] at h1;omega
 cases hg:jB r.Su p with
 |none=>
  refine j8 rfl ?_;exact b9 ⟨λ_=>⟨rfl,rfl⟩,λe=>by simp at e,λ_ _ _=>⟨rfl,rfl⟩⟩
 |some x=>
  refine m9 rfl ?_;simp only [zbs];refine d5 (λhc=>b9 ⟨λ_=>⟨rfl,rfl⟩,λe=>by simp at e,λ_ _ _=>⟨rfl,rfl⟩⟩) (λhc=> ?_);refine d6 (Gc h h0' h1') (λq hq=>b9 ?_);rcases hq with ⟨ha,hb,hc2⟩|⟨ha,hb,l,hl,hc2⟩
  ·exact ⟨λ_=>⟨hb,by rw [hc2]⟩,λe=>absurd e ha,λ_ _ hn=>by grind⟩
  ·exact ⟨λe=>absurd ha e,λ_=>⟨hb,⟨x,hg,by simpa using hc⟩,l,hl,by rw [hc2];rfl⟩,λ_ _ hn=>by grind⟩
theorem DQ(h:fk H M W n r)(k p:Int):OK (jR r k p) (BQ r k p):=by
 unfold jR;refine d5 (λhc=>b9 ⟨λ_=>⟨rfl,rfl⟩,λe=>by simp at e,λh0=>by simp at hc;omega⟩) (λh0=> ?_);refine d5 (λhc=>b9 ⟨λ_=>⟨rfl,rfl⟩,λe=>by simp at e,λ_ h1=>by simp at hc;omega⟩) (λh1=> ?_);have h0':0<=k:=by simp at h0;omega
 have h1':k<H:=by simp [h.Sh] at h1;omega
 cases hg:jB r.Su p with
 |none=>
  refine j8 rfl ?_;exact b9 ⟨λ_=>⟨rfl,rfl⟩,λe=>by simp at e,λ_ _ _=>⟨rfl,rfl⟩⟩
 |some x=>
  refine m9 rfl ?_;simp only [zbs];refine d5 (λhc=>b9 ⟨λ_=>⟨rfl,rfl⟩,λe=>by simp at e,λ_ _ _=>⟨rfl,rfl⟩⟩) (λhc=> ?_);refine d6 (KX h h0' h1') (λq hq=>b9 ?_);rcases hq with ⟨ha,hb,hc2⟩|⟨ha,hb,l,hl,hc2⟩
  ·exact ⟨λ_=>⟨hb,by rw [hc2]⟩,λe=>absurd e ha,λ_ _ hn=>by grind⟩
  ·exact ⟨λe=>absurd ha e,λ_=>⟨hb,⟨x,hg,by simpa using hc⟩,l,hl,by rw [hc2];rfl⟩,λ_ _ hn=>by grind⟩
theorem BQ.inv(h:fk H M W n r)(hb:n+1<=1000000000){k p:Int}{q:Int×Int×zb}(hq:BQ r k p q):fk H M W (n+1) q.2.2:=by
 by_cases e:q.2.1=0
 ·obtain ⟨_,_,l,hl,e2⟩:=hq.yes e;rw [e2];have h0:=h.TZ;have h1:=h.last;exact BP h hb (by rw [hl,j7];exact h.hl) (by simp;omega) (by simp;omega)
 ·rw [(hq.no e).2];exact h.mono (by omega) hb
end Go.Proofs.YtplmgfkghomelaaGreatDoor
