/- Lemmas. -/
import Derived.Test.YtplmgfkghomelaaGreatDoorKSem
import Derived.Test.YtplmgfkghomelaaGreatDoorO1
set_option linter.unusedVariables false
set_option linter.unusedSimpArgs false
namespace Go.Proofs.YtplmgfkghomelaaGreatDoor
section
section
section
open Go.Sx
variable {code:List zf} {q:Nat} {M:EM} {i:zf} {m:zD} {j:zj}
theorem Nb(g:uj code){p:Nat}(h:Way code p q)(hlt:p<q):∀a,qT code q a=true->qT code p a=true\/∃i,code[a]? =some i/\(q:Int)=a-i.D:=by
 intro a ha;obtain ⟨ia,a1,a2,a3,a4,a5,a6,a7,a8⟩:=iE g ha;by_cases hc:qT code p a=true
 ·exact .inl hc
 ·right
  refine ⟨ia,a1,?_⟩;have hc':qT code p a=false:=by simpa using hc
  obtain ⟨i,hi,hw⟩:=h;rcases hw with ⟨h1,h2⟩|⟨h1,h2,h3⟩
  ·rcases Int.lt_or_le ((a:Int)-ia.D) q with h3|h3
   ·exfalso
    have:=(xC a1 a2).2 (show (a:Int)-ia.D<=p/\p<=a by omega)
    grind
   ·omega
  ·rcases Int.lt_or_le ((a:Int)-ia.D) q with h4|h4
   ·exfalso
    exact g.en p (zes.1 hi).1 ⟨i,hi,h1,h2,a,ia,q,a7,a1,a2,h3,ha,hc',by omega⟩
   ·omega
theorem HV(g:uj code){back back':Nat->Int}(hf:Fit code back){p:Nat}(hp:p<code.length)(h:Way code p q)(hlt:p<q)(hb:∀a,a≠p->back' a=back a)(hb2:∀i,code[p]? =some i->i.Op=20->q=p+1)(hb3:∀i,code[p]? =some i->i.Op≠20->back' p=back p):
  pot code back' q code.length+1<=pot code back p code.length:=by
 refine Fk hp (λt ht=>NG g hf hlt (Nb g h hlt) (λa ha=> ?_) ht);obtain ⟨ia,a1,a2,a3,a4,a5,a6,a7,a8⟩:=iE g ha;have hfa:=hf a ia a1 a2
 grind
structure Run (m:zD) (j:zj) (M:EM) (p:Nat):Prop where
 TW:M.module=m
 Su:M.Su=p
 lt:p<m.Code.length
 known:At j p M.regs
 u:tK M.regs
 fit:Fit m.Code M.LE
 Sm:∀i,u64 (M.SP.SS.Sm i)
 ev:u64 M.Sl.A/\u64 M.Sl.B
structure Bf (m:zD) (j:zj):Prop where
 Ty:uj m.Code
 goodM:tu m.Maps
 up:Gl m m.Code.length j
 snd:Snd m m.Code.length j
theorem wG(hb:i.B=8\/(0<=i.B/\i.B<8)):ic M i=some (D8 i M.regs):=by
 grind [ic,D8,Gj]
theorem Nc{W:qM}(h:∀i,u64 (W.Sm i))(t:Int):OK (xO W t) (λr=>u64 r.1):=by
 unfold xO;refine d5 (λ_=>b9 ⟨by simp,by simp⟩) (λhc=> ?_)
 grind [ain,b9]
theorem Kp{W:qM}(h:∀i,u64 (W.Sm i))(t:Int){v:Int}(hv:u64 v):OK (xx W t v) (λr=>∀i,u64 (r.2.Sm i)):=by
 unfold xx;refine d5 (λ_=>b9 h) (λhc=> ?_)
 grind [ain,b9,u64,aset]
theorem Nd(C:jo)(t:Int):OK (jY C t) (λr=>u64 r.1):=by
 unfold jY;refine d5 (λ_=>b9 ⟨by simp,by simp⟩) (λhc=> ?_)
 grind [ain,b9,u64,aset,xe]
structure Ran (m:zD) (i:zf) (p:Nat) (M:EM) (r:Int×EM):Prop where
 TW:r.2.module=M.module
 st:r.2.state=M.state
 ev:r.2.Sl=M.Sl
 Sm:∀i,u64 (r.2.SP.SS.Sm i)
 step:∃q:Nat,w64 (M.Su+r.1)=q/\Stp i p M.regs q r.2.regs/\(i.Op≠20->r.2.LE=M.LE/\p<q)/\
  (i.Op=20->(q=p+1/\r.2.LE=aset M.LE p 0)\/((q:Int)=p-i.D/\M.LE p<i.SN/\r.2.LE=aset M.LE p (M.LE p+1)))
theorem Pt(hS:Bf m j){p:Nat}(h:Run m j M p)(hi:m.Code[p]? =some i)(h21:i.Op≠21)(h22:i.Op≠22):OK (BJ M i) (Ran m i p M):=by
 have hg:=hS.Ty;have hn:=hg.Un;have hr:=hg.Tb.right hi;have hop:=mV hr;have hA:=nW hr;have hp:=h.lt;have hat:=h.Su;have one:w64 (M.Su+1)=((p+1:Nat):Int):=by grind [qp]
 have hA8:ain 8 i.A=some i.A.toNat:=Gj hA.1 hA.2;have hD:¬ (15<=i.Op/\i.Op<=20)->ain 8 i.D=some i.D.toNat:=λh=>Gj (nV hr h).1 (nV hr h).2
 have plain:∀{R:Nat->Int} {S:zl},i.Op≠20->(∀t,u64 (S.SS.Sm t))->Stp i p M.regs (p+1) R->Ran m i p M (1,{M with SP:=S,regs:=R}):=
  λhne hw hs=>⟨rfl,rfl,rfl,hw,p+1,one,hs,λ_=>⟨rfl,by omega⟩,λe=>absurd e hne⟩
 unfold BJ;refine d5 (λe=> ?_) (λe0=> ?_)
 ·have e:i.Op=0:=by simpa using e
  rw [wG (bE hr (.inl (by omega))),hD (by omega)];exact b9 (plain (by omega) h.Sm (.set e))
 refine d5 (λe=> ?_) (λe11=> ?_)
 ·have e:i.Op=11:=by simpa using e
  rw [wG (bE hr (.inl (by omega)))];simp only [zbs];refine d6 (Nc h.Sm _) (λv hv=> ?_);rw [hD (by omega)];exact b9 (plain (by omega) h.Sm (.any v.1 (.inl e) hv))
 refine d5 (λe=> ?_) (λe12=> ?_)
 ·have e:i.Op=12:=by simpa using e
  rw [hA8,wG (bE hr (.inl (by omega)))];simp only [zbs];exact d6 (Kp h.Sm _ (h.u _ (by omega))) (λv hv=>b9 (plain (by omega) hv (.store e)))
 refine d5 (λe=> ?_) (λe13=> ?_)
 ·have e:i.Op=13:=by simpa using e
  rw [hD (by omega)];simp only [zbs];refine d5 (λ_=>b9 ?_) (λ_=>b9 (plain (by omega) h.Sm (.any _ (.inr e) h.ev.1)))
  have:aset (aset M.regs i.D.toNat M.Sl.A) i.D.toNat M.Sl.B=aset M.regs i.D.toNat M.Sl.B:=by
   grind [aset]
  rw [this];exact plain (by omega) h.Sm (.any _ (.inr e) h.ev.2)
 refine d5 (λe=> ?_) (λe14=> ?_)
 ·have e:i.Op=14:=by simpa using e
  have him:=nX hr e;rw [hD (by omega),ve (x:=i.SN) him.1 (by omega)];exact b9 (plain (by omega) h.Sm (.map e))
 refine d5 (λe=> ?_) (λe15=> ?_)
 ·have e:i.Op=15:=by simpa using e
  have hl:(ju i).2.1=true:=by grind [cG]
  have hlead:=hg.Tb.leads hi hl;rw [cG hr (by omega) (by omega)] at hlead;simp only at hlead;have hJ:=rA (i:=i) (by grind [eH,inB]);obtain ⟨q,hq⟩:=zof hlead.1;refine b9 ⟨rfl,rfl,rfl,h.Sm,q,?_,.jump q e (by omega),λ_=>⟨rfl,by omega⟩,λe2=>by omega⟩
  grind [w64,qp]
 refine d5 (λe=> ?_) (λe20=> ?_)
 ·have e:i.Op=20:=by simpa using e
  have hlp:=hg.Tb.loop hi e;have hfit:=h.fit p i hi e;have ha64:ain 64 M.Su=some p:=by grind [PN]
  rw [hA8,ha64];simp only [zbs];refine d6 (R:=λo=>o=true->M.LE p<i.SN) (d5 (λ_=>b9 (λh=>yc h)) (λ_=>b9 (λh=>by cases h))) (λo ho=> ?_);refine d5 (λht=>b9 ?_) (λ_=>b9 ?_)
  ·have hlt:=ho ht;refine ⟨rfl,rfl,rfl,h.Sm,((p:Int)-i.D).toNat,?_,.back _ e (by omega),λhne=>absurd e hne,λ_=>.inr ⟨by omega,hlt,?_⟩⟩
   ·grind [w64,qp]
   grind [aset,w64,qp]
  ·exact ⟨rfl,rfl,rfl,h.Sm,p+1,one,.on e,λhne=>absurd e hne,λ_=>.inl ⟨rfl,rfl⟩⟩
 simp only [beq_eq_false_iff_ne,ne_eq] at e0 e11 e12 e13 e14 e15 e20;have hsb:i.B=8\/(0<=i.B/\i.B<8):=bE hr (by omega);have hus:=Ai h.u hsb;have hua:=h.u i.A.toNat (by omega);rw [hA8,wG hsb];simp only [zbs];rw [Af hua hus];simp only [zbs];refine d5 (λho=> ?_) (λho=> ?_)
 ·simp at ho;rw [hD (by omega)];exact b9 (plain (by omega) h.Sm (.arith ho.1 ho.2))
 ·have h16:16<=i.Op/\i.Op<=19:=by
   rw [Bool.and_eq_false_iff] at ho
   grind
  rw [Fq];simp only [zbs];have hl:(ju i).2.1=true:=by grind [cG]
  have hlead:=hg.Tb.leads hi hl;rw [cG hr (by omega) (by omega)] at hlead;simp only at hlead;have hJ:=rA (i:=i) (by grind [eH,inB]);obtain ⟨q,hq⟩:=zof hlead.1;refine d5 (λht=>b9 ?_) (λhf=>b9 ?_)
  ·refine ⟨rfl,rfl,rfl,h.Sm,q,?_,.yes q h16.1 h16.2 ht (by omega),λ_=>⟨rfl,by omega⟩,λe2=>by omega⟩
   grind [w64,qp]
  ·exact ⟨rfl,rfl,rfl,h.Sm,p+1,one,.no h16.1 h16.2 hf,λ_=>⟨rfl,by omega⟩,λe2=>by omega⟩
theorem wH{p:Nat}{regs regs':Nat->Int}(hr:xd i=true)(hi:code[p]? =some i)(h:Stp i p regs q regs')(h20:i.Op=20->q=p+1):Way code p q:=by
 have on:(ju i).2.2=true->Way code p (p+1):=λh=>⟨i,hi,.inl ⟨h,rfl⟩⟩
 have pl:¬ (15<=i.Op/\i.Op<=20)->i.Op≠22->(ju i).2.2=true:=λh1 h2=>by grind [we]
 have jm:∀{q:Nat},15<=i.Op->i.Op<=19->(q:Int)=p+(i.D+1)->Way code p q:=λ{q}h1 h2 h3=>by
  have:=rA (i:=i) (by grind [eH,inB]);exact ⟨i,hi,.inr ⟨by grind [cG],by grind [cG],by grind [cG]⟩⟩
 cases h with
 |set e=>exact on (pl (by omega) (by omega))
 |arith e1 e2=>exact on (pl (by omega) (by omega))
 |any v e hv=>exact on (pl (by omega) (by omega))
 |store e=>exact on (pl (by omega) (by omega))
 |map e=>exact on (pl (by omega) (by omega))
 |jump q e1 e2=>exact jm (by omega) (by omega) e2
 |yes q e1 e2 e3 e4=>exact jm (by omega) (by omega) e4
 |no e1 e2 e3=>exact on (by grind [cG])
 |back q e1 e2=>rw [h20 e1];exact on (by rw [oY hr e1])
 |on e=>exact on (by rw [oY hr e])
 |call v e hv=>exact on (pl (by omega) (by omega))
def Pu(m:zD)(j:zj)(M M':EM)(p:Nat):Prop:=∃q,Run m j M' q/\pot m.Code M'.LE q m.Code.length+1<=pot m.Code M.LE p m.Code.length/\
 ∃i,m.Code[p]? =some i/\((ju i).2.1=true/\(q:Int)=p+(ju i).1\/(ju i).2.2=true/\(q:Int)=p+1)
theorem Way.to{p:Nat}(h:Way code p q):∃i,code[p]? =some i/\((ju i).2.1=true/\(q:Int)=p+(ju i).1\/(ju i).2.2=true/\(q:Int)=p+1):=by
 obtain ⟨i,hi,h|h⟩:=h
 ·grind
 grind
theorem E1(hS:Bf m j){p:Nat}(h:Run m j M p)(hi:m.Code[p]? =some i){r:Int×EM}(hr:Ran m i p M r){steps state:Int}:
  Pu m j M ⟨r.2.Sl,r.2.module,r.2.SP,r.2.regs,r.2.LE,w64 (M.Su+r.1),steps,state⟩ p:=by
 have hg:=hS.Ty;have hri:=hg.Tb.right hi;obtain ⟨q,hq,hst,hne,h20⟩:=hr.step;have hat:=hS.snd.step p i _ h.lt hi h.known.1 h.known.2.choose_spec.1 M.regs q r.2.regs h.u h.known.2.choose_spec.2 hst
 have hql:q<m.Code.length:=by
  have:=(zes.1 hat.1).1;rw [hS.up.ji.TM] at this;exact this
 have base:Fit m.Code r.2.LE->Run m j ⟨r.2.Sl,r.2.module,r.2.SP,r.2.regs,r.2.LE,w64 (M.Su+r.1),steps,state⟩ q:=
  λhf=>⟨by rw [<- h.TW];exact hr.TW,hq,hql,hat,hst.u64s hri h.u,hf,hr.Sm,by show u64 r.2.Sl.A/\_;rw [hr.ev];exact h.ev⟩
 by_cases e20:i.Op=20
 ·have hlp:=hg.Tb.loop hi e20;have hfit:=h.fit p i hi e20;rcases h20 e20 with ⟨rfl,ht⟩|⟨hqd,hlt,ht⟩
  ·refine ⟨p+1,base ?_,?_,(wH hri hi hst (λ_=>rfl)).to⟩
   ·intro a ia ha ho;rw [ht];unfold aset;split
    ·grind
    ·exact h.fit a ia ha ho
   ·show pot m.Code r.2.LE _ _+1<=_;refine HV hg h.fit h.lt (wH hri hi hst (λ_=>rfl)) (by omega) (λa ha=> ?_) (λ_ _ _=>rfl) (λi' hi' hne=> ?_)
    ·rw [ht];unfold aset;rw [d8 ha]
    grind
  ·refine ⟨q,base ?_,?_,i,hi,.inl (by grind [oY])⟩
   ·intro a ia ha ho;rw [ht];unfold aset;split
    ·grind
    ·exact h.fit a ia ha ho
   ·show pot m.Code r.2.LE _ _+1<=_;refine Fk h.lt (λt ht2=>KU hg h.fit hi e20 hqd ?_ (λb hb=> ?_) hlt ht2)
    ·rw [ht];unfold aset;rw [d7 rfl]
    ·rw [ht];unfold aset;rw [d8 hb]
 ·obtain ⟨ht,hlt⟩:=hne e20;refine ⟨q,base (by rw [ht];exact h.fit),?_,(wH hri hi hst (λe=>absurd e e20)).to⟩
  show pot m.Code r.2.LE _ _+1<=_;refine HV hg h.fit h.lt (wH hri hi hst (λe=>absurd e e20)) hlt (λa _=>by rw [ht]) (λi' hi' ho=> ?_) (λ_ _ _=>by rw [ht])
  grind
theorem HW:∀k:Fin 7,∃s,dm ((k:Nat):Int)=some (s,true)/\s.TJ=decide ((k:Nat)<=4)/\0<=s.most/\(((k:Nat)=0\/(k:Nat)=4\/(k:Nat)=5)->s.most=18446744073709551615)/\(((k:Nat)=1\/(k:Nat)=2\/(k:Nat)=3)->s.most=1)/\((k:Nat)<=4->0<=s.asks/\s.asks<5):=by
 intro k;have h:∀k:Fin 7,((dm ((k:Nat):Int)).map (λr=>r.2&&(r.1.TJ==decide ((k:Nat)<=4))&&decide (0<=r.1.most)&&(!(decide ((k:Nat)=0)||decide ((k:Nat)=4)||decide ((k:Nat)=5))||r.1.most==18446744073709551615)&&(!(decide ((k:Nat)=1)||decide ((k:Nat)=2)||decide ((k:Nat)=3))||r.1.most==1)&&(!decide ((k:Nat)<=4)||(decide (0<=r.1.asks)&&decide (r.1.asks<5)))))=some true:=by decide+kernel
 obtain ⟨⟨s,b⟩,h1,h2⟩:=yw.1 (h k)
 grind
theorem sT(hS:Bf m j){p:Nat}(h:Run m j M p)(hi:m.Code[p]? =some i)(ho:i.Op=21){v:Int}(hv:∀s,dm i.SN=some (s,true)->0<=v/\v<=s.most){S:zl}(hS2:∀t,u64 (S.SS.Sm t)){steps state:Int}:
  Pu m j M ⟨M.Sl,M.module,S,aset M.regs 0 v,M.LE,w64 (M.Su+1),steps,state⟩ p:=by
 have hn:=hS.Ty.Un;have hlt:=h.lt
 have:=E1 hS h hi (r:=(1,{M with SP:=S,regs:=aset M.regs 0 v})) (steps:=steps) (state:=state)
  ⟨rfl,rfl,rfl,hS2,p+1,by show w64 (M.Su+1)=_;rw [h.Su,qp (by omega) (by omega)];simp,.call v ho hv,λ_=>⟨rfl,by omega⟩,λe=>by omega⟩
 exact this
inductive sV (m:zD) (j:zj) (M:EM) (p:Nat) (i:zf) (r:qS×EM):Prop
 |ends:i.Op=22->r.1.RS=4->r.2.state=2->Run m j r.2 p->sV m j M p i r
 |asks:i.Op=21->i.SN<=4->r.1.RS=2->r.2.state=1->Run m j r.2 p->r.2.LE=M.LE->(r.1.Item.SE∈m.Maps/\0<=r.1.Item.Op/\r.1.Item.Op<5)->sV m j M p i r
 |goes:r.1.RS=1\/r.1.RS=3->r.2.state=0->Pu m j M r.2 p->sV m j M p i r
theorem Kq(hS:Bf m j){p:Nat}(h:Run m j M p)(h0:M.state=0)(hi:m.Code[p]? =some i):OK (tv 2199023255552 M) (λr=>sV m j M p i r/\r.1.Pc=p):=by
 have hg:=hS.Ty;have hr:=hg.Tb.right hi;have hA:=nW hr
 have hi2:idx M.module.Code M.Su=some i:=by
  rw [h.TW,h.Su];obtain ⟨x,hx1,hx2⟩:=aT h.lt
  grind
 have hrun:∀{steps state:Int},Run m j {M with steps:=steps,state:=state} p:=⟨h.TW,h.Su,h.lt,h.known,h.u,h.fit,h.Sm,h.ev⟩
 unfold tv;refine d5 (λe=>by grind) (λ_=>d5 (λe=>by grind) (λ_=> ?_));rw [hi2];simp only [zbs];refine d5 (λe=> ?_) (λe21=> ?_)
 ·have e:i.Op=21:=by simpa using e
  have him:=mr hr e;obtain ⟨n,hn⟩:=zof him.1;obtain ⟨sg,s1,s2,s3,s4,s5,s6⟩:=HW ⟨n,by omega⟩;have s1':dm i.SN=some (sg,true):=by rw [hn];exact s1
  have s2':sg.TJ=decide (n<=4):=s2;refine d6 (R:=λr=>sV m j M p i r/\r.1.Pc=p) ?_ (λx hx=>b9 hx);unfold Aa me;simp only [s1',zbs];refine d5 (λha=> ?_) (λha=> ?_)
  ·have h4:n<=4:=by rw [s2'] at ha;exact yc ha
   obtain ⟨hany,x,hx,hsm⟩:=h.known;have hk:=hS.snd.TX p i x h.lt hi hany hx e (by omega);have hm:=(hsm 1 (by omega)).2 hk;have hw:=hS.up.ji.wt p x hx 1 (by omega)
   have hb:0<=(x 1).SE/\(x 1).SE<m.Maps.length:=by
    rcases hw with hw|hw|hw
    ·grind [oU]
    ·omega
    ·exact hw.2.2
   rw [h.TW];refine f9 (OK.get (by grind) (by grind) (λmp hmp=> ?_));obtain ⟨l,hl,_⟩:=DZ ⟨n,by omega⟩;have hl':xY 2199023255552 i.SN=some l:=by rw [hn];exact hl
   rw [hl'];simp only [zbs];refine d6 (R:=λ_=>True) (d5 (λ_=>b9 trivial) (λ_=>b9 trivial)) (λv _=>b9 ⟨.asks e (by omega) rfl rfl ?_ rfl ⟨zmg hmp,s6 h4⟩,h.Su⟩);have:=hrun (steps:=w64 (M.steps+1)) (state:=1);rw [h.TW] at this;exact this
  ·have h5:n=5\/n=6:=by rw [s2'] at ha;have:=yu ha;omega
   refine d6 (R:=λo=>(o.2.RS=1\/o.2.RS=3)/\o.2.Pc=(p:Int)/\o.1.state=0/\Pu m j M ⟨o.1.Sl,o.1.module,o.1.SP,o.1.regs,o.1.LE,w64 (o.1.Su+1),o.1.steps,o.1.state⟩ p) ?_ (λo ho=>b9 ⟨.goes ho.1 ho.2.2.1 ho.2.2.2,ho.2.1⟩);refine d5 (λe5=> ?_) (λe5=>b9 ⟨.inr rfl,h.Su,h0,sT hS h hi e (λs hs=> ?_) h.Sm⟩)
   ·have e5:n=5:=by
     grind
    refine d6 (Nd _ _) (λv hv=>b9 ⟨.inl rfl,h.Su,h0,sT hS h hi e (S:=⟨M.SP.SS,v.2.2⟩) (λs hs=> ?_) h.Sm⟩);rw [s1'] at hs;cases hs;have:=s4 (.inr (.inr e5));exact ⟨hv.1,by have:=hv.2;omega⟩
   grind
 refine d5 (λe=> ?_) (λe22=> ?_)
 ·have e:i.Op=22:=by simpa using e
  rw [Gj hA.1 hA.2];exact b9 ⟨.ends e rfl rfl hrun,h.Su⟩
 have e21:i.Op≠21:=by simpa using e21
 have e22:i.Op≠22:=by simpa using e22
 refine d6 (Pt hS (hrun (steps:=w64 (M.steps+1)) (state:=M.state)) hi e21 e22) (λr hr=>b9 ⟨.goes (.inl rfl) (by show r.2.state=0;rw [hr.st];exact h0) ?_,h.Su⟩)
 exact E1 hS hrun hi hr
theorem Kr{h:Int}{r:zk}(hv:u64 r.SJ):OK (gF h r) (λv=>u64 v/\(h=1\/h=2\/h=3->v<=1)):=by
 unfold gF;refine d6 (R:=λo=>o=true↔h=0\/h=4) ?_ (λo ho=> ?_)
 ·refine d5 (λe=>b9 ?_) (λe=>b9 ?_)
  ·grind
  grind
 refine d5 (λe=>b9 ⟨hv,λh3=>by grind⟩) (λ_=> ?_);refine d6 (R:=λ_=>True) (d5 (λ_=>b9 trivial) (λ_=>b9 trivial)) (λo _=> ?_);have z:u64 0/\(h=1\/h=2\/h=3->(0:Int)<=1):=⟨⟨by simp,by simp⟩,λ_=>by simp⟩
 have o1:u64 1/\(h=1\/h=2\/h=3->(1:Int)<=1):=⟨⟨by simp,by simp⟩,λ_=>by simp⟩
 exact d5 (λ_=>d5 (λ_=>b9 o1) (λ_=>b9 z)) (λ_=>d5 (λ_=>d5 (λ_=>b9 o1) (λ_=>b9 z)) (λ_=>b9 z))
theorem HX(hS:Bf m j){p:Nat}(h:Run m j M p)(h1:M.state=1)(hi:m.Code[p]? =some i)(ho:i.Op=21)(h4:i.SN<=4){res:zk}(hres:u64 res.SJ):
  OK (mw M res) (λr=>r.1=0/\r.2.state=0/\Pu m j M r.2 p):=by
 have hr:=hS.Ty.Tb.right hi;have him:=mr hr ho
 have hi2:idx M.module.Code M.Su=some i:=by
  rw [h.TW,h.Su];obtain ⟨x,hx1,hx2⟩:=aT h.lt
  grind
 unfold mw;refine d5 (λe=>by grind) (λ_=> ?_);rw [hi2];simp only [zbs];refine d6 (Kr hres) (λv hv=>b9 ⟨rfl,rfl,sT hS h hi ho (λs hs=> ?_) h.Sm⟩);obtain ⟨n,hn⟩:=zof him.1;obtain ⟨sg,s1,s2,s3,s4,s5,s6⟩:=HW ⟨n,by omega⟩;have s1':dm i.SN=some (sg,true):=by rw [hn];exact s1
 rw [s1'] at hs;cases hs;have hv1:=hv.1.1;have hv2:=hv.1.2
 grind
theorem Ng{l:List Int}(h:l.length*8<=140737488355328):ja l=some l:=by
 grind [ja,room]
theorem Nh{l:List zf}(h:l.length*40<=140737488355328):zR l=some l:=by
 grind [zR,room]
theorem mg(m:zD):∃o p e,jX 2199023255552 m=some (o,p,e)/\((e≠0/\o=none)\/(e=0/\p=0/\∃j,o=some j/\Bf m j)):=by
 obtain ⟨⟨o,p,e⟩,h1,h2⟩:=BI m;refine ⟨o,p,e,h1,?_⟩;by_cases he:e=0
 ·subst he;obtain ⟨j,hj,a,b,c,d⟩:=Qn (BS m) h1 rfl;exact .inr ⟨rfl,(h2.Ty rfl).1,j,hj,⟨a,b,c,d⟩⟩
 ·exact .inl ⟨he,h2.bad he⟩
theorem wI{o:Option zj}{p e:Int}(h:jX 2199023255552 m=some (o,p,e)):vv 2199023255552 m=some (p,e):=by
 unfold vv;rw [h];cases o<;>rfl
def Me(m:zD)(E:qQ)(C:jo):EM:=⟨E,m,⟨⟨λ_=>0⟩,C⟩,λ_=>0,λ_=>0,0,0,0⟩
theorem Re(hS:Bf m j){E:qQ}(hE:u64 E.A/\u64 E.B)(C:jo):Run m j (Me m E C) 0:=by
 have hn1:=hS.Ty.n1;refine ⟨rfl,rfl,hn1,hS.snd.zero _ (λr _=>⟨by simp [Me],by simp [Me]⟩),λr _=>⟨by simp [Me],by simp [Me]⟩,λa i ha ho=> ?_,λt=>⟨by simp [Me],by simp [Me]⟩,hE⟩
 ·have:=hS.Ty.Tb.loop ha ho
  grind [Me]
end
open Go.Sx
def PZ(b:List Int)(r:Int×Int×Int):Prop:=0<=r.1/\0<=r.2.1/\r.2.1<=b.length
theorem gp{x:Int}(h: -9223372036854775808<=x)(h2:x<9223372036854775808):w64 x=x:=qp h (by omega)
theorem Mp{b:List Int}(hb:b.length<=140737488355328):OK (pE b) (PZ b):=by
 unfold pE;refine d6 (g8 (Q:=λo=>match o with|.inl _=>True|.inr r=>PZ b r) (λi s=>i<=9/\0<=s) ⟨by omega,by omega⟩ (λi s again hi hI k=> ?_) (λs hI=>trivial)) (λo ho=> ?_)
 ·unfold uO;refine i7 hi (λx hx=> ?_) |> f9
  refine d5 (λ_=>b9 ⟨by simp,by simp,by simp⟩) (λhc=> ?_);have h7:w64 (7*(i:Int))=7*(i:Int):=gp (by omega) (by omega);rw [h7,fy (by omega)];simp only [zbs];have hr:=BT s (wm .u64 (vc (wl .u8 x 127)) (7*(i:Int)));refine d5 (λhlt=>b9 ⟨hr.1,?_,?_⟩) (λhge=>k _ ⟨?_,hr.1⟩)
  ·grind [gp]
  ·grind [gp]
  grind
 ·cases o with
  |inl _=>exact b9 ⟨by simp,by simp,by simp⟩
  |inr r=>exact b9 ho
theorem I2{b:List Int}(hb:b.length<=140737488355328):OK (ky b) (λr=>0<=r.2.1/\r.2.1<=b.length):=by
 unfold ky;refine d6 (Mp hb) (λr hr=>b9 ⟨hr.2.1,hr.2.2⟩)
structure RI (b:List Int) (r:zw):Prop where
 eb:r.b=b
 lo:0<=r.Su
 hi:r.Su<=b.length+1
 ok:r.e=0->r.Su<=b.length
theorem ob{b:List Int}{r:zw}(h:RI b r){e:Int}(he:e≠0):OK (qy r e) (λr'=>RI b r'/\r'.e≠0):=by
 unfold qy;refine d5 (λ_=>b9 ⟨{h with ok:=λe0=>absurd e0 he},he⟩) (λhn=>b9 ⟨h,by simpa using hn⟩)
theorem Lh{b:List Int}(hb:b.length<=140737488355328):OK (aO 2199023255552 ⟨b,0,0,0⟩) (RI b):=by
 unfold aO;refine d6 (OK.rounds (Q:=RI b) (RI b) (λs=>(3-s.Su).toNat) ?_ 2199023255552 _ ⟨rfl,by simp,by simp;omega,λ_=>by simp⟩ (by simp)) (λ_ h=>b9 h);intro s again h k;unfold gk;refine d5 (λhc=> ?_) (λ_=>b9 h);simp only [zae,zdq,s9] at hc;have h1:=h.lo;have h2:=h.ok hc.2;have hw:w64 (s.Su+1)=s.Su+1:=gp (by omega) (by omega);have hI:RI b {s with field:=s.Su}:=⟨h.eb,h.lo,h.hi,h.ok⟩
 refine d6 (R:=λo=>o.b=b/\o.Su=s.Su/\(o.e=0->s.Su<b.length)) ?_ (λo ho=> ?_)
 ·refine d5 (λhge=> ?_) (λhlt=> ?_)
  ·unfold qy;refine d6 (R:=λo=>o.b=b/\o.Su=s.Su/\o.e≠0) (d5 (λ_=>b9 ⟨h.eb,rfl,show (_:Int)≠0 from (by simp)⟩) (λhn=>b9 ⟨h.eb,rfl,by simpa using hn⟩)) (λo ho=>b9 ⟨ho.1,ho.2.1,λe=>absurd e ho.2.2⟩)
  ·have hlt':s.Su<b.length:=by
    have e:=h.eb
    grind
   refine f9 (OK.get h1 (by grind) (λx hx=> ?_))
   have hs:∃c,uo (⟨[84,80,1].toArray⟩) s.Su=some c:=by
    have:s.Su=0\/s.Su=1\/s.Su=2:=by omega
    rcases this with e|e|e<;>rw [e]<;>exact ⟨_,rfl⟩
   obtain ⟨c,hs⟩:=hs;rw [hs];simp only [zbs];refine d5 (λ_=> ?_) (λ_=>b9 ⟨h.eb,rfl,λ_=>hlt'⟩);unfold qy;refine d6 (R:=λo=>o.b=b/\o.Su=s.Su/\o.e≠0) (d5 (λ_=>b9 ⟨h.eb,rfl,show (_:Int)≠0 from (by simp)⟩) (λhn=>b9 ⟨h.eb,rfl,by simpa using hn⟩)) (λo ho=>b9 ⟨ho.1,ho.2.1,λe=>absurd e ho.2.2⟩)
 ·obtain ⟨h3,h4,h5⟩:=ho;rw [h4,hw];exact k _ ⟨h3,by simp;omega,by simp;omega,λe=>by grind⟩ (by simp;omega)
theorem ii{b:List Int}(hb:b.length<=140737488355328){r:zw}(h:RI b r){m e:Int}(h0:0<=m)(hm:m<1000)(he:e≠0):
  OK (qW r m e) (λp=>RI b p.2/\0<=p.1/\p.1<=m):=by
 unfold qW;refine d5 (λhc=>b9 ⟨h,by simp,by simpa using h0⟩) (λhc=> ?_);have e0:r.e=0:=by simpa using hc
 have h1:=h.lo;have h2:=h.ok e0;rw [h.eb]
 have hcut:cut b r.Su (b.length:Int)=some (b.drop r.Su.toNat):=by
  unfold cut;rw [d7 ⟨h1,by omega,by omega⟩];simp
 rw [hcut];simp only [zbs];refine d6 (Mp (by simp;omega)) (λg hg=> ?_);have hg2:=hg.2.2;have hg1:=hg.2.1;simp only [yx] at hg2;have hw:w64 (r.Su+g.2.1)=r.Su+g.2.1:=gp (by omega) (by omega);rw [hw];have hI:RI b ⟨b,r.Su+g.2.1,r.Su,r.e⟩:=⟨rfl,by simp;omega,by simp;omega,λ_=>by simp;omega⟩
 refine d5 (λhbad=> ?_) (λ_=>d5 (λ_=> ?_) (λhle=>b9 ⟨hI,?_,?_⟩))
 ·grind [d6,ob,b9]
 ·grind [d6,ob,b9]
 ·have:g.1<=m:=by simpa using hle
  rw [gp (by have:=hg.1;omega) (by omega)];exact hg.1
 ·have:g.1<=m:=by simpa using hle
  rw [gp (by have:=hg.1;omega) (by omega)];exact this
theorem I3(i:zf):OK (fI [i]) (λ_=>True):=by
 unfold fI;refine d6 (g8 (Q:=λ_=>True) (λ_ _=>True) trivial (λj s again hj _ k=> ?_) (λ_ _=>trivial)) (λo _=> ?_)
 ·unfold lX;refine f9 (i7 hj (λx hx=> ?_));rw [fw];simp only [zbs];exact d5 (λ_=>b9 trivial) (λ_=>k _ trivial)
 grind [b9]
theorem N3{b:List Int}(hb:b.length<=140737488355328){r:zw}(h:RI b r):OK (bC r) (λp=>RI b p.2):=by
 unfold bC;refine d6 (ii hb h (by decide) (by decide) (by decide)) (λa ha=> ?_);refine d6 (ii hb ha.1 (by decide) (by decide) (by decide)) (λc hc=> ?_);refine d6 (ii hb hc.1 (by decide) (by decide) (by decide)) (λd hd=> ?_);refine d6 (ii hb hd.1 (by decide) (by decide) (by decide)) (λf hf=> ?_);have hF:=hf.1;refine d5 (λ_=>b9 hF) (λhc0=> ?_);have e0:f.2.e=0:=by simpa using hc0
 have h1:=hF.lo;have h2:=hF.ok e0;rw [hF.eb]
 have hcut:cut b f.2.Su (b.length:Int)=some (b.drop f.2.Su.toNat):=by
  unfold cut;rw [d7 ⟨h1,by omega,by omega⟩];simp
 rw [hcut];simp only [zbs];refine d6 (I2 (by simp;omega)) (λg hg=> ?_);have hg2:=hg.2;have hg1:=hg.1;simp only [yx] at hg2;have hw:w64 (f.2.Su+g.2.1)=f.2.Su+g.2.1:=gp (by omega) (by omega);rw [hw];have hI:∀q,RI b ⟨b,f.2.Su+g.2.1,q,f.2.e⟩:=λq=>⟨rfl,by simp;omega,by simp;omega,λ_=>by simp;omega⟩
 refine d5 (λhbad=> ?_) (λ_=>d6 (I3 _) (λt _=>d5 (λ_=> ?_) (λ_=>b9 (hI _))))
 ·grind [d6,ob,b9]
 grind [d6,ob,b9]
theorem I4{b:List Int}(hb:b.length<=140737488355328):OK (dV 2199023255552 b) (λr=>r.2.2=0->tu r.1.Maps/\r.1.Code.length<=64):=by
 unfold dV;refine d6 (Lh hb) (λr0 h0=> ?_);refine d6 (ii hb h0 (by decide) (by decide) (by decide)) (λn hn=> ?_)
 refine d6 (OK.rounds (Q:=λo=>RI b o.1/\(∀x∈o.2,0<=x/\x<4)/\o.2.Nodup/\(o.2.length:Int)<=4)
  (λs=>RI b s.1/\(∀x∈s.2.1,0<=x/\x<4)/\s.2.1.Nodup/\s.2.2=s.2.1.length/\s.2.2<=n.1) (λs=>(n.1-s.2.2).toNat) ?_ 2199023255552 _ ?_ ?_) (λo ho=> ?_)
 ·intro s again h k;obtain ⟨h1,h2,h3,h4,h5⟩:=h;unfold nv;refine d5 (λhc=> ?_) (λ_=>b9 ⟨h1,h2,h3,by simp;omega⟩);have hlt:s.2.2<n.1:=by simpa using hc
  refine d6 (ii hb h1 (by decide) (by decide) (by decide)) (λq hq=> ?_);rw [tr];simp only [zbs];refine d6 (R:=λo=>RI b o/\(o.e=0->q.1∉s.2.1)) (d5 (λhct=>d6 (ob hq.1 (by decide)) (λz hz=>b9 ⟨hz.1,λe=>absurd e hz.2⟩)) (λhct=>b9 ⟨hq.1,λ_=>by simpa using hct⟩)) (λo ho=> ?_);refine d5 (λ_=>b9 ⟨ho.1,h2,h3,by simp;omega⟩) (λhe=> ?_)
  grind [f9,OK.hasRoom,w64,gp]
 ·grind
 ·grind
 refine d6 (ii hb ho.1 (by decide) (by decide) (by decide)) (λc hc=> ?_);refine d6 (R:=RI b) (d5 (λ_=>d6 (ob hc.1 (by decide)) (λz hz=>b9 hz.1)) (λ_=>b9 hc.1)) (λr2 h2=> ?_);refine d6 (OK.rounds (Q:=λo=>RI b o.1/\(o.2.length:Int)<=64) (λs=>RI b s.1/\s.2.2=s.2.1.length/\s.2.2<=c.1) (λs=>(c.1-s.2.2).toNat) ?_ 2199023255552 _ ?_ ?_) (λo2 ho2=> ?_)
 ·intro s again h k;obtain ⟨h1,h3,h4⟩:=h;have hc2:=hc.2.2;unfold nw;refine d5 (λhcc=> ?_) (λ_=>b9 ⟨h1,by simp;omega⟩);simp only [zae,zdq,s9] at hcc;refine d6 (N3 hb h1) (λq hq=> ?_)
  grind [f9,OK.hasRoom,w64,gp]
 ·grind
 ·grind
 refine d6 (R:=λ_=>True) (d5 (λhcc=>d6 (ob (b:=b) (r:=⟨o2.1.b,o2.1.Su,o2.1.Su,o2.1.e⟩) ⟨ho2.1.eb,ho2.1.lo,ho2.1.hi,ho2.1.ok⟩ (e:=13) (by decide)) (λz hz=>b9 trivial)) (λ_=>b9 trivial)) (λr3 _=> ?_);refine d5 (λhe=>b9 (λh=> ?_)) (λ_=>b9 (λ_=>⟨⟨ho.2.1,ho.2.2.1,by grind⟩,by grind⟩))
 grind
open Go.Sx
variable {α:Type} {m:List (Int×α)}
def goodM(k:Int)(ms:List Int):Prop:=ms.Nodup/\∀m∈ms,0<=m/\m<k
theorem goodM.take{k:Int}{ms:List Int}(h:goodM k ms)(i:Nat):goodM k (ms.take i):=
 ⟨h.1.sublist (List.take_sublist _ _),λm hm=>h.2 m (z9 hm)⟩
theorem pM{k:Int}{ms:List Int}{x:Int}(h:goodM k (ms++[x])):0<=x/\x<k/\x∉ms:=by
 have h2:=h.2 x (by simp);have h1:=j9.1 h.1
 grind
theorem eI{ms:List Int}{i:Nat}{x:Int}(h:ms[i]? =some x):ms.take (i+1)=ms.take i++[x]:=by
 rw [x4,h];rfl
theorem IA(p0:zW)(p2:List Int):OK (jL (fq p0 p2) (λ(s:Unit)=>(.inl ())) p2.length 0 ()) (λo=>match o with|.inl _=>goodM p0.maps p2|.inr r=>r=(2,p0)/\¬ goodM p0.maps p2):=by
 refine g8 (λi _=>goodM p0.maps (p2.take i)) ⟨by simp,by simp⟩ ?_ ?_
 ·intro i s again hi h k;unfold fq;refine f9 (i7 hi (λx hx=> ?_))
  have bad:(goodM p0.maps (p2.take (i+1))->False)->OK (some (Sum.inr (2,p0):Unit⊕(Int×zW))) (λo=>match o with|.inl _=>goodM p0.maps p2|.inr r=>r=(2,p0)/\¬ goodM p0.maps p2):=
   λhb=>b9 ⟨rfl,λhg=>hb (hg.take _)⟩
  have ts:=eI hx;refine f9 (d5 (λh1=>b9 ?_) (λh1=>d5 (λh2=>b9 ?_) (λh2=> ?_)))
  ·simp only [o8];refine bad (λhg=> ?_);rw [ts] at hg;have:=pM hg;simp at h1;omega
  ·simp only [o8];refine bad (λhg=> ?_);rw [ts] at hg;have:=pM hg;simp at h2;omega
  ·rw [wN (by omega)];simp only [zbs,ip];refine b9 ?_;simp only [zdq];split
   ·rename_i hc
    refine bad (λhg=> ?_);rw [ts] at hg;exact (pM hg).2.2 hc
   ·rename_i hc
    refine k _ ?_;rw [ts];simp at h1 h2;refine ⟨j9.2 ⟨h.1,by simp,λa ha b hb e=> ?_⟩,λm hm=> ?_⟩
    ·grind
    ·rcases g9.1 hm with hm|hm
     ·exact h.2 m hm
     grind
 grind
theorem Fl(xs:List Int)(h:xs.length*8<=140737488355328):ja xs=some xs:=by
 grind [ja,room]
open Classical in
theorem NI(p0:zW)(p:Int)(ms:List Int)(h:ms.length*8<=140737488355328):
  dz p0 p ms=some (if goodM p0.maps ms then (if (jz p0.held p).isSome then (42,p0) else (0,⟨p0.maps,mput p0.held p ms⟩)) else (2,p0)):=by
 obtain ⟨o,h1,h2⟩:=IA p0 ms
 grind [dz,jz,Fl]
def mdels{α:Type}(m:List (Int×α)):List Int->List (Int×α)
 |[]=>m
 |p::r=>mdels (mdel m p) r
theorem wa(m:List (Int×α))(l:List Int)(p:Int):mdels m (l++[p])=mdel (mdels m l) p:=by
 induction l generalizing m with
 |nil=>rfl
 |cons q r ih=>exact ih _
theorem NJ(p0:zW)(ps:List Int):OK (jL (fj p0 ps) (λ(s:Unit)=>(.inl ())) ps.length 0 ()) (λo=>match o with|.inl _=>ps.Nodup|.inr r=>r=(2,p0)/\¬ ps.Nodup):=by
 refine g8 (λi _=>(ps.take i).Nodup) (by simp) ?_ ?_
 ·intro i s again hi h k;unfold fj;refine f9 (i7 hi (λx hx=> ?_));have ts:=eI hx;rw [wN (by omega)];simp only [zbs,ip];refine d5 (λhc=>b9 ⟨rfl,λhn=> ?_⟩) (λhc=>k _ ?_)
  ·have:=hn.sublist (List.take_sublist (i+1) ps)
   grind
  grind
 grind
theorem NK(p0:zW)(ps:List Int):OK (jL (fk p0 ps) (λ(s:Unit)=>(.inl ())) ps.length 0 ()) (λo=>match o with|.inl _=>∀p∈ps,(jz p0.held p).isSome=true|.inr r=>r=(41,p0)/\¬ ∀p∈ps,(jz p0.held p).isSome=true):=by
 refine g8 (λi _=>∀p∈ps.take i,(jz p0.held p).isSome=true) (by simp) ?_ ?_
 ·intro i s again hi h k;unfold fk;refine f9 (i7 hi (λx hx=> ?_));refine d5 (λhc=>b9 ⟨rfl,λhn=> ?_⟩) (λhc=>k _ ?_)
  ·grind
  ·rw [eI hx]
   grind
 grind
theorem NL(ps:List Int)(p0:zW):jL (fm ps) (λ(s:zW)=>s) ps.length 0 p0=some ⟨p0.maps,mdels p0.held ps⟩:=by
 refine OK.is (g8 (λi s=>s=⟨p0.maps,mdels p0.held (ps.take i)⟩) rfl ?_ ?_)
 ·rintro i s again hi rfl k;unfold fm;refine f9 (i7 hi (λx hx=>k _ ?_));rw [eI hx,wa]
 grind
open Classical in
theorem NM(p0:zW)(ps:List Int):bM p0 ps=some (if ps.Nodup then (if ∀p∈ps,(jz p0.held p).isSome=true then (0,⟨p0.maps,mdels p0.held ps⟩) else (41,p0)) else (2,p0)):=by
 obtain ⟨o,h1,h2⟩:=NJ p0 ps;unfold bM;rw [h1];rcases o with u|r
 ·obtain ⟨o,h3,h4⟩:=NK p0 ps
  grind [NL]
 grind
theorem tz(m:List (Int×α))(k:Int)(x:α)(q:Int):jz (mput m k x) q=if k=q then some x else jz m q:=by
 induction m with
 |nil=>simp [mput,jz]
 |cons p m ih=>
  grind [mput,jz]
theorem KV(m:List (Int×α))(k:Int):(mdel m k).length<=m.length:=by
 induction m with
 |nil=>simp [mdel]
 |cons p m ih=>
  grind [mdel]
theorem IB(ps:List Int)(m:List (Int×α)):(mdels m ps).length<=m.length:=by
 induction ps generalizing m with
 |nil=>exact m6 _
 |cons p r ih=>exact p8 (ih _) (KV _ _)
theorem KW(m:List (Int×α))(k:Int)(x:α):(mput m k x).length<=m.length+1:=by
 induction m with
 |nil=>simp [mput]
 |cons p m ih=>
  grind [mput]
def Fm(m:List (Int×α)):Prop:=(m.map (·.1)).Nodup
theorem BM{k:Int}:jz m k=none↔k∉m.map (·.1):=by
 induction m with
 |nil=>simp [jz]
 |cons p m ih=>
  grind [jz]
theorem Ac{k:Int}{x:α}(h:jz m k=none):mput m k x=m++[(k,x)]:=io h
theorem Fm.mput{α:Type}{m:List (Int×α)}(h:Fm m){k:Int}{x:α}(hn:jz m k=none):Fm (mput m k x):=by
 rw [Ac hn];unfold Fm;rw [v6];refine j9.2 ⟨h,by simp,λa ha b hb e=> ?_⟩;simp at hb;subst hb;subst e;exact BM.1 hn ha
theorem IC(m:List (Int×α))(k:Int):(mdel m k).Sublist m:=by
 induction m with
 |nil=>exact List.Sublist.refl _
 |cons p m ih=>
  grind [mdel]
theorem Fm.mdel{α:Type}{m:List (Int×α)}(h:Fm m)(k:Int):Fm (mdel m k):=h.sublist ((IC m k).map _)
theorem ID(h:Fm m)(k q:Int):jz (mdel m k) q=if k=q then none else jz m q:=by
 induction m with
 |nil=>simp [Sx.mdel,jz]
 |cons p m ih=>
  have hn:=s7.1 (show (p.1::m.map (·.1)).Nodup from h);unfold Sx.mdel;by_cases e:p.1==k
  ·have e':p.1=k:=by simpa using e
   rw [d7 e];by_cases e2:k=q
   ·rw [d7 e2];subst e2;exact BM.2 (by grind)
   grind [jz]
  ·have e':p.1≠k:=by simpa using e
   rw [d8 e];unfold jz;by_cases e3:p.1==q
   ·grind
   ·rw [d8 e3,d8 e3];exact ih hn.2
end
open Go.Sx
variable {α β:Type} {M W:Nat}
theorem BN(m:List (Int×α))(k:Int)(x:α)(q:Int):jz (un m k x) q=if k=q/\(jz m k).isSome then some x else jz m q:=by
 induction m with
 |nil=>simp [un,gz,jz]
 |cons p m ih=>
  by_cases h:p.1=k
  ·grind [un,gz,jz]
  grind [un,gz,jz]
theorem Fo(m:List (Int×α))(k:Int)(x:α):(un m k x).map (·.1)=m.map (·.1):=by
 induction m with
 |nil=>simp [un,gz]
 |cons p m ih=>
  grind [un,gz]
theorem KX(m:List (Int×α))(k:Int)(x:α):(un m k x).length=m.length:=by
 have:=congrArg List.length (Fo m k x)
 simpa using this
theorem IE(f:α->β)(m:List (Int×α))(k:Int)(x y:α)(h:jz m k=some y)(hf:f x=f y):(un m k x).map (λp=>(p.1,f p.2))=m.map (λp=>(p.1,f p.2)):=by
 induction m with
 |nil=>simp [un,gz]
 |cons p m ih=>
  grind [jz,un,gz]
theorem KY(f:α->β)(m:List (Int×α))(k:Int):(mdel m k).map (λp=>(p.1,f p.2))=mdel (m.map (λp=>(p.1,f p.2))) k:=by
 induction m with
 |nil=>rfl
 |cons p m ih=>
  grind [mdel]
theorem KZ(f:α->β)(m:List (Int×α))(k:Int):jz (m.map (λp=>(p.1,f p.2))) k=(jz m k).map f:=by
 induction m with
 |nil=>rfl
 |cons p m ih=>
  grind [jz]
theorem K0{m:List (Int×α)}{k:Int}{x:α}(h:jz m k=some x):(k,x)∈m:=by
 grind [eM]
structure fD (H M W:Nat) (n:Nat) (r:zb):Prop where
 Sc:r.Sc=H
 hl:r.Si.Sc.length=H
 maps:r.maps=M
 Ub:r.Td.maps=M
 wk:r.Sg.in_.length=W
 TP:H<=4/\M<=4/\W<=4
 Ta:n<=1000000000
 TT:0<=r.given
 given:r.given<=n
 TQ:0<=r.Si.SB.last
 last:r.Si.SB.last<=n
 TR:1<=r.Sg.Tt
 Tt:r.Sg.Tt<=n+1
 Ut:∀e∈r.Sg.in_,0<=e/\e<=r.Sg.Tt
 Tc:Fm r.Sj
 len:r.Sj.length<=16
 prog:∀p x,jz r.Sj p=some x->1<=p/\p<=r.given/\tu x.module.Maps/\(∀m∈x.module.Maps,m<M)/\x.module.Code.length<=64/\0<=x.SM/\x.SM<=r.Sg.Tt
 held:r.Td.held=r.Sj.map (λp=>(p.1,p.2.module.Maps))
 Uz:r.waiting.Nodup
 TY:∀p,p∈r.waiting↔∃x,jz r.Sj p=some x/\0<x.SM
theorem fD.mono{H n n':Nat}{r:zb}(h:fD H M W n r)(hn:n<=n')(hb:n'<=1000000000):fD H M W n' r:=
 {h with Ta:=hb,given:=by have:=h.given;omega,last:=by have:=h.last;omega,Tt:=by have:=h.Tt;omega}
theorem fD.wlen{H n:Nat}{r:zb}(h:fD H M W n r):r.waiting.length<=r.Sj.length:=by
 have hsub:r.waiting ⊆ r.Sj.map (·.1):=λp hp=>by
  obtain ⟨x,hx,_⟩:=(h.TY p).1 hp;exact List.mem_map_of_mem (f:=λ(q:Int×zS)=>q.1) (K0 hx)
 have:=List.Nodup.length_le_of_subset h.Uz hsub
 simpa using this
theorem PR{H:Nat}(hH:1<=H)(hH4:H<=4)(hM:M<=4)(hW:1<=W)(hW4:W<=4):∃r,cd H M W=some (some r,0)/\fD H M W 0 r/\r.given=0/\r.Si.SB.last=0/\(r.Sj=[]/\∀u∈r.Si.Sc,u.Sq=0)/\r.waiting=[]/\r.Sg.in_=List.replicate W 0:=by
 have h1:kh H=some (some ⟨⟨0⟩,List.replicate H ⟨0,0⟩⟩,0):=by
  grind [kh,mkLen]
 have h2:kQ M=some (some ⟨M,[]⟩,0):=by
  grind [kQ]
 have h3:eC W=some (some ⟨1,List.replicate W 0⟩,0):=by
  grind [eC,mkLen]
 refine ⟨_,by unfold cd;rw [h1,h2,h3];rfl,?_,rfl,rfl,⟨rfl,λu hu=>by rw [z4 hu]⟩,rfl,rfl⟩;exact {Sc:=rfl,hl:=by simp,maps:=rfl,Ub:=rfl,wk:=by simp,TP:=⟨hH4,hM,hW4⟩,Ta:=by omega,TT:=by simp,given:=by simp,TQ:=by simp,last:=by simp,TR:=by simp,Tt:=by simp,Ut:=λe he=>by grind,Tc:=l8,len:=by simp,prog:=λp x hx=>by simp [jz] at hx,held:=rfl,Uz:=l8,TY:=λp=>by simp [jz]}
theorem NN{h m w:Int}(hb:¬ (1<=h/\h<=4/\0<=m/\m<=4/\1<=w/\w<=4)):cd h m w=some (none,2):=by
 unfold cd kh kQ eC;by_cases h1:1<=h/\h<=4
 ·have e1:mkLen h 16=some h.toNat:=by unfold mkLen;rw [d7 ⟨by omega,by omega⟩]
  rw [d8 (by simp;omega),e1];by_cases h2:0<=m/\m<=4
  ·rw [d8 (by simp;omega)];rw [d7 (by simp;omega)];rfl
  ·rw [d7 (by simp;omega)];by_cases h3:1<=w/\w<=4
   ·have e3:mkLen w 8=some w.toNat:=by unfold mkLen;rw [d7 ⟨by omega,by omega⟩]
    rw [d8 (by simp;omega),e3];rfl
   ·rw [d7 (by simp;omega)];rfl
 ·rw [d7 (by simp;omega)];by_cases h2:0<=m/\m<=4
  ·rw [d8 (by simp;omega)];by_cases h3:1<=w/\w<=4
   ·have e3:mkLen w 8=some w.toNat:=by unfold mkLen;rw [d7 ⟨by omega,by omega⟩]
    rw [d8 (by simp;omega),e3];rfl
   ·rw [d7 (by simp;omega)];rfl
  ·rw [d7 (by simp;omega)];by_cases h3:1<=w/\w<=4
   ·have e3:mkLen w 8=some w.toNat:=by unfold mkLen;rw [d7 ⟨by omega,by omega⟩]
    rw [d8 (by simp;omega),e3];rfl
   ·rw [d7 (by simp;omega)];rfl
end
open Go.Sx
variable {H M W n:Nat} {r:zb}
def nY(maps:Int)(b:List Int):Option (zD×Int):=(dV 2199023255552 b).bind λd=>if d.2.2 !=0 then some (d.1,d.2.2) else
 (vv 2199023255552 d.1).bind λj=>if j.2 !=0 then some (d.1,j.2) else some (d.1,if d.1.Maps.any (λx=>decide (maps<=x)) then 41 else 0)
theorem Gm(maps:Int){b:List Int}(hb:b.length<=140737488355328):OK (nY maps b) (λv=>v.2=0->tu v.1.Maps/\(∀x∈v.1.Maps,x<maps)/\v.1.Code.length<=64):=by
 unfold nY;have hd0:=I4 hb;refine d6 hd0 (λd hd=>d5 (λhe=>b9 (λe=>absurd e (by simpa using he))) (λhe=> ?_));have hg:=hd (by simpa using he);refine d6 (KT d.1) (λj _=>d5 (λhe=>b9 (λe=>absurd e (by simpa using he))) (λ_=>b9 (λe=>⟨hg.1,λx hx=> ?_,hg.2⟩)))
 grind
def added(r:zb)(m:zD):zb:={r with Td:=⟨r.Td.maps,mput r.Td.held (r.given+1) m.Maps⟩,given:=r.given+1,Sj:=mput r.Sj (r.given+1) ⟨m,0⟩}
theorem tA(h:fD H M W n r):jz r.Sj (r.given+1)=none:=by
 cases hg:jz r.Sj (r.given+1) with
 |none=>rfl
 |some x=>have:=(h.prog _ _ hg).2.1;omega
theorem Fp(h:fD H M W n r)(p:Int):jz r.Td.held p=(jz r.Sj p).map (·.module.Maps):=by rw [h.held];exact KZ (λ(x:zS)=>x.module.Maps) _ _
theorem NO(r:zb)(d:zD×Int×Int):OK (jL (ak r d) (λ(s:Unit)=>(.inl ())) d.1.Maps.length 0 ()) (λo=>match o with|.inl _=>∀x∈d.1.Maps,x<r.maps|.inr q=>q=(0,41,r)/\¬ ∀x∈d.1.Maps,x<r.maps):=by
 refine g8 (λi _=>∀x∈d.1.Maps.take i,x<r.maps) (by simp) ?_ ?_
 ·intro i s again hi hI k;unfold ak;refine f9 (i7 hi (λx hx=>d5 (λhc=>b9 ⟨rfl,λhall=> ?_⟩) (λhc=>k _ ?_)))
  ·have:=hall x (zmg hx);simp at hc;omega
  ·intro y hy;rw [eI hx] at hy
   grind
 grind
theorem NP(h:fD H M W n r){b:List Int}{v:zD×Int}(hv:nY r.maps b=some v)(hok:v.2=0->tu v.1.Maps/\(∀x∈v.1.Maps,x<r.maps)/\v.1.Code.length<=64):
  jr 2199023255552 r b=some (if v.2≠0 then (0,v.2,r) else if 16<=r.Sj.length then (0,40,r) else (r.given+1,0,added r v.1)):=by
 unfold nY at hv;unfold jr;cases hd:dV 2199023255552 b with
 |none=>rw [hd] at hv;simp at hv
 |some d=>
  rw [hd] at hv;simp only [zbs] at hv |-;by_cases he:d.2.2=0
  ·rw [d8 (by simp [he])] at hv |-;cases hj:vv 2199023255552 d.1 with
   |none=>rw [hj] at hv;simp at hv
   |some j=>
    rw [hj] at hv;simp only [zbs] at hv |-;by_cases hje:j.2=0
    ·rw [d8 (by simp [hje])] at hv |-;simp only [i5] at hv;obtain ⟨o,h1,h2⟩:=NO r d;rw [h1];simp only [zbs];cases o with
     |inr q=>
      grind
     |inl u=>
      have:d.1.Maps.any (λx=>decide (r.maps<=x))=false:=by
       grind
      rw [this] at hv;subst hv;have hgood:=hok rfl;simp only;by_cases hl:16<=r.Sj.length
      ·grind
      ·rw [d8 (by simp;omega)];have hg0:=h.TT;have hg1:=h.given;have hb:=h.Ta;have hw:w64 (r.given+1)=r.given+1:=gp (by omega) (by omega);have hgm:goodM r.Td.maps d.1.Maps:=⟨hgood.1.2.1,λm hm=>⟨(hgood.1.1 m hm).1,by rw [h.Ub,<- h.maps];exact hgood.2.1 m hm⟩⟩
       have hnone:jz r.Td.held (r.given+1)=none:=by grind [Fp,tA]
       rw [hw,NI _ _ _ (by have:d.1.Maps.length<=4:=hgood.1.2.2;omega),d7 hgm,hnone];simp [hl,added]
    grind
  grind
theorem IF(h:fD H M W n r)(hb:n+1<=1000000000){m:zD}(hl:¬ 16<=r.Sj.length)(hok:tu m.Maps/\(∀x∈m.Maps,x<M)/\m.Code.length<=64):fD H M W (n+1) (added r m):=by
 have hf:=tA h;have hg0:=h.TT;have hg1:=h.given;refine {Sc:=h.Sc,hl:=h.hl,maps:=h.maps,Ub:=h.Ub,wk:=h.wk,TP:=h.TP,Ta:=hb,TT:=by simp [added];omega,given:=by simp [added];omega,TQ:=h.TQ,last:=by have:=h.last;simp [added];omega,TR:=h.TR,Tt:=by have:=h.Tt;simp [added];omega,Ut:=h.Ut,Tc:=h.Tc.mput hf,len:= ?_,prog:= ?_,held:= ?_,Uz:=h.Uz,TY:= ?_}
 ·grind [KW,added]
 ·intro p x hx;simp only [added,tz] at hx |-;split at hx
  ·rename_i e
   cases hx
   exact ⟨by omega,by omega,hok.1,hok.2.1,hok.2.2,by simp,by have:=h.TR;simp;omega⟩
  ·have:=h.prog p x hx
   grind
 ·simp only [added];have e2:jz r.Td.held (r.given+1)=none:=by grind [Fp]
  rw [Ac hf,Ac e2,h.held];simp
 ·intro p;rw [show (added r m).waiting=r.waiting from rfl,h.TY p]
  grind [added,tz]
def Gn(r:zb)(t:zz):zb:={r with Si:=t}
theorem BO(h:fD H M W n r)(hb:n+1<=1000000000){t:zz}(h1:t.Sc.length=H)(h2:0<=t.SB.last)(h3:t.SB.last<=n+1):fD H M W (n+1) (Gn r t):=
 {h.mono (n':=n+1) (by omega) hb with hl:=h1,TQ:=h2,last:=by simp [Gn];omega}
theorem nZ{α:Type}{l:List α}{t:Int}(h0:0<=t)(h1:t<l.length):∃x,idx l t=some x/\l[t.toNat]? =some x:=by
 have hl:t.toNat<l.length:=by omega
 refine ⟨l[t.toNat],?_,zeg hl⟩;unfold idx
 grind
theorem wc(h:fD H M W n r){k p:Int}(h0:0<=k)(h1:k<H):xz r.Si k p=some (r.Si.SB.last+1,0,⟨⟨r.Si.SB.last+1⟩,r.Si.Sc.set k.toNat ⟨r.Si.SB.last+1,p⟩⟩):=by
 have hb:=h.Ta;have hl0:=h.TQ;have hl1:=h.last;unfold xz aD bu;rw [gp (by omega) (by omega)];obtain ⟨x,hx,_⟩:=nZ (l:=r.Si.Sc) h0 (by rw [h.hl];omega);simp [hx]
structure BP (r:zb) (k p:Int) (q:Int×Int×zb):Prop where
 no:q.2.1≠0->q.1=0/\q.2.2=r
 yes:q.2.1=0->q.1=r.Si.SB.last+1/\(∃x,jz r.Sj p=some x/\x.SM=0)/\∃l,l=r.Si.Sc.set k.toNat ⟨r.Si.SB.last+1,p⟩/\q.2.2=Gn r ⟨⟨r.Si.SB.last+1⟩,l⟩
 UL:0<=k->k<r.Sc->jz r.Sj p=none->q.1=0/\q.2.1=41
theorem Gp(h:fD H M W n r){k p:Int}(h0:0<=k)(h1:k<H):OK (vX r.Si k p) (λq=>(q.2.1≠0/\q.1=0/\q.2.2=r.Si)\/(q.2.1=0/\q.1=r.Si.SB.last+1/\∃l,l=r.Si.Sc.set k.toNat ⟨r.Si.SB.last+1,p⟩/\q.2.2=⟨⟨r.Si.SB.last+1⟩,l⟩)):=by
 unfold vX je jf;obtain ⟨x,hx,_⟩:=nZ (l:=r.Si.Sc) h0 (by rw [h.hl];omega);simp only [zbs,hx,wc h h0 h1];refine d5 (λ_=>b9 (.inl ⟨by simp,rfl,rfl⟩)) (λ_=>d5 (λ_=>b9 (.inl ⟨by simp,rfl,rfl⟩)) (λ_=>b9 (.inr ⟨rfl,rfl,_,rfl,rfl⟩)))
theorem K1(h:fD H M W n r){k p:Int}(h0:0<=k)(h1:k<H):OK (bD r.Si k p) (λq=>(q.2.1≠0/\q.1=0/\q.2.2=r.Si)\/(q.2.1=0/\q.1=r.Si.SB.last+1/\∃l,l=r.Si.Sc.set k.toNat ⟨r.Si.SB.last+1,p⟩/\q.2.2=⟨⟨r.Si.SB.last+1⟩,l⟩)):=by
 unfold bD je jf;obtain ⟨x,hx,_⟩:=nZ (l:=r.Si.Sc) h0 (by rw [h.hl];omega);simp only [zbs,hx,wc h h0 h1];refine d5 (λ_=>b9 (.inl ⟨by simp,rfl,rfl⟩)) (λ_=>d5 (λ_=>b9 (.inl ⟨by simp,rfl,rfl⟩)) (λ_=>b9 (.inr ⟨rfl,rfl,_,rfl,rfl⟩)))
theorem tB(h:fD H M W n r)(k p:Int):OK (jA r k p) (BP r k p):=by
 unfold jA;refine d5 (λhc=>b9 ⟨λ_=>⟨rfl,rfl⟩,λe=>by simp at e,λh0=>by simp at hc;omega⟩) (λh0=> ?_);refine d5 (λhc=>b9 ⟨λ_=>⟨rfl,rfl⟩,λe=>by simp at e,λ_ h1=>by simp at hc;omega⟩) (λh1=> ?_);have h0':0<=k:=by simp at h0;omega
 have h1':k<H:=by simp [h.Sc] at h1;omega
 cases hg:jz r.Sj p with
 |none=>
  refine j7 rfl ?_;exact b9 ⟨λ_=>⟨rfl,rfl⟩,λe=>by simp at e,λ_ _ _=>⟨rfl,rfl⟩⟩
 |some x=>
  refine o5 rfl ?_;simp only [zbs];refine d5 (λhc=>b9 ⟨λ_=>⟨rfl,rfl⟩,λe=>by simp at e,λ_ _ _=>⟨rfl,rfl⟩⟩) (λhc=> ?_);refine d6 (Gp h h0' h1') (λq hq=>b9 ?_);rcases hq with ⟨ha,hb,hc2⟩|⟨ha,hb,l,hl,hc2⟩
  ·exact ⟨λ_=>⟨hb,by rw [hc2]⟩,λe=>absurd e ha,λ_ _ hn=>by grind⟩
  ·exact ⟨λe=>absurd ha e,λ_=>⟨hb,⟨x,hg,by simpa using hc⟩,l,hl,by rw [hc2];rfl⟩,λ_ _ hn=>by grind⟩
theorem D2(h:fD H M W n r)(k p:Int):OK (jQ r k p) (BP r k p):=by
 unfold jQ;refine d5 (λhc=>b9 ⟨λ_=>⟨rfl,rfl⟩,λe=>by simp at e,λh0=>by simp at hc;omega⟩) (λh0=> ?_);refine d5 (λhc=>b9 ⟨λ_=>⟨rfl,rfl⟩,λe=>by simp at e,λ_ h1=>by simp at hc;omega⟩) (λh1=> ?_);have h0':0<=k:=by simp at h0;omega
 have h1':k<H:=by simp [h.Sc] at h1;omega
 cases hg:jz r.Sj p with
 |none=>
  refine j7 rfl ?_;exact b9 ⟨λ_=>⟨rfl,rfl⟩,λe=>by simp at e,λ_ _ _=>⟨rfl,rfl⟩⟩
 |some x=>
  refine o5 rfl ?_;simp only [zbs];refine d5 (λhc=>b9 ⟨λ_=>⟨rfl,rfl⟩,λe=>by simp at e,λ_ _ _=>⟨rfl,rfl⟩⟩) (λhc=> ?_);refine d6 (K1 h h0' h1') (λq hq=>b9 ?_);rcases hq with ⟨ha,hb,hc2⟩|⟨ha,hb,l,hl,hc2⟩
  ·exact ⟨λ_=>⟨hb,by rw [hc2]⟩,λe=>absurd e ha,λ_ _ hn=>by grind⟩
  ·exact ⟨λe=>absurd ha e,λ_=>⟨hb,⟨x,hg,by simpa using hc⟩,l,hl,by rw [hc2];rfl⟩,λ_ _ hn=>by grind⟩
theorem BP.inv(h:fD H M W n r)(hb:n+1<=1000000000){k p:Int}{q:Int×Int×zb}(hq:BP r k p q):fD H M W (n+1) q.2.2:=by
 by_cases e:q.2.1=0
 ·obtain ⟨_,_,l,hl,e2⟩:=hq.yes e;rw [e2];have h0:=h.TQ;have h1:=h.last;exact BO h hb (by rw [hl,j5];exact h.hl) (by simp;omega) (by simp;omega)
 ·rw [(hq.no e).2];exact h.mono (by omega) hb
end Go.Proofs.YtplmgfkghomelaaGreatDoor
