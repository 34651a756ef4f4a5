/- Lemmas. -/
import Derived.Test.YtplmgfkghomelaaGreatDoorKOps
set_option linter.unusedVariables false
set_option linter.unusedSimpArgs false
namespace Go.Proofs.YtplmgfkghomelaaGreatDoor
section
open Go.Sx
variable {n:Nat} {a:zg} {i:zf} {α:Type} {m:zH} {j:zj} {xs:List α}
def nX:zi:=⟨0,⟨0,0⟩,0⟩
def WT(n:Nat)(x:zi):Prop:=x=nX\/(x.QJ=1/\SW x.Rh/\x.Rv=0)\/(x.QJ=2/\x.Rh=⟨0,0⟩/\0<=x.Rv/\x.Rv<n)
theorem WT.span{x:zi}(h:WT n x):SW x.Rh:=by
 rcases h with rfl|h|h
 ·exact SW.zero
 ·exact h.2.1
 grind [SW.zero]
theorem WT.num{s:zg}(h:SW s):WT n ⟨1,s,0⟩:=.inr (.inl ⟨rfl,h,rfl⟩)
theorem WT.zero:WT n nX:=.inl rfl
theorem iV(s:zg):vc s=some ⟨1,s,0⟩:=rfl
theorem lz{s:zg}(h:SW s):vB s=some true:=by rw [iX,decide_eq_true h.2.1]
theorem SW.join{b:zg}(ha:SW a)(hb:SW b):SW ⟨ma (ma 18446744073709551615 a.Lo) b.Lo,pm (pm 0 a.Hi) b.Hi⟩:=by
 obtain ⟨a0,a1,a2⟩:=ha;obtain ⟨b0,b1,b2⟩:=hb;unfold ma pm;refine ⟨?_,?_,?_⟩<;>simp only<;>(repeat' split)<;>omega
theorem MB{b:zg}(ha:SW a)(hb:SW b):kZ [a,b]=some (⟨ma (ma 18446744073709551615 a.Lo) b.Lo,pm (pm 0 a.Hi) b.Hi⟩,true):=by
 unfold kZ;simp [jI,pG,idx,lz ha,lz hb]
def C2(a b:zi):zi:=
 if (a.QJ !=b.QJ)||(a.Rv !=b.Rv) then nX
 else if a.QJ==1 then ⟨1,⟨ma (ma 18446744073709551615 a.Rh.Lo) b.Rh.Lo,pm (pm 0 a.Rh.Hi) b.Rh.Hi⟩,0⟩
 else a
theorem AQ{a b:zi}(ha:SW a.Rh)(hb:SW b.Rh):fq a b=some (C2 a b):=by
 unfold fq C2;rw [MB ha hb];split
 ·rfl
 ·split<;>rfl
theorem WT.join{n:Nat}{a b:zi}(ha:WT n a)(hb:WT n b):WT n (C2 a b):=by
 unfold C2;split
 ·exact WT.zero
 ·split
  ·exact WT.num (SW.join ha.span hb.span)
  ·exact ha
theorem Hu{b:zg}(ha:SW a)(hb:SW b):dZ [a,b]=some (if pm (pm 0 a.Lo) b.Lo<=ma (ma 18446744073709551615 a.Hi) b.Hi then (⟨pm (pm 0 a.Lo) b.Lo,ma (ma 18446744073709551615 a.Hi) b.Hi⟩,true) else (⟨0,0⟩,false)):=by
 unfold dZ;simp only [gL,zbs];by_cases h:pm (pm 0 a.Lo) b.Lo<=ma (ma 18446744073709551615 a.Hi) b.Hi
 ·simp [jI,lf,idx,Int.not_lt.2 ha.2.1,Int.not_lt.2 hb.2.1,iX,h]
 ·simp [jI,lf,idx,Int.not_lt.2 ha.2.1,Int.not_lt.2 hb.2.1,iX,h]
theorem C3{b:zg}(ha:SW a)(hb:SW b):OK (dZ [a,b]) (λr=>SW r.1):=by
 refine ⟨_,Hu ha hb,?_⟩;obtain ⟨a0,a1,a2⟩:=ha;obtain ⟨b0,b1,b2⟩:=hb;split
 ·rename_i h
  refine ⟨?_,h,?_⟩
  ·grind [pm]
  grind [ma]
 ·exact SW.zero
theorem Eb(op a b:Int):OK (aP op a b) (λr=>r.2=inB op 16 19):=by
 unfold aP
 have q:∀k:Int,16<=k->k<=19->(op==k)=true->true=inB op 16 19:=by
  grind [inB]
 refine b9 (λh=>b8 (q 16 (by omega) (by omega) h)) (λn1=> ?_);refine b9 (λh=>b8 (q 17 (by omega) (by omega) h)) (λn2=> ?_);refine b9 (λh=>b8 (q 18 (by omega) (by omega) h)) (λn3=> ?_);refine b9 (λh=>b8 (q 19 (by omega) (by omega) h)) (λn4=>b8 ?_)
 grind [inB]
theorem AR{op:Int}{b:zg}{h:Bool}(ha:SW a)(hb:SW b):OK (dz op a b h) (λr=>SW r.1):=by
 obtain ⟨a0,a1,a2⟩:=id ha;obtain ⟨b0,b1,b2⟩:=id hb;unfold dz;refine d5 (Eb op 0 0) (λr hr=> ?_);simp only [lz ha,lz hb,zbs];refine d5 (R:=λ_=>True) (b9 (λ_=>b8 trivial) (λ_=>b9 (λ_=>b8 trivial) (λ_=>b8 trivial))) (λo _=> ?_);refine b9 (λ_=>b8 SW.zero) (λ_=> ?_);unfold xP;simp only [zbs];refine b9 (λ_=>b8 ha) (λhs=> ?_);have hs:b.Lo=b.Hi:=by simpa using hs
 refine d5 (R:=λ_=>True) (b9 (λ_=>b8 trivial) (λ_=>b9 (λ_=>b8 trivial) (λ_=>b8 trivial))) (λo _=> ?_);refine b9 (λ_=>b9 (λ_=>b8 SW.zero) (λhz=> ?_)) (λ_=> ?_)
 ·have hz:b.Lo≠0:=by simpa using hz
  refine d5 (C3 ha ?_) (λx hx=>b8 hx);rw [xW (by omega) (by omega)];exact ⟨by simp,by simp;omega,by simp;omega⟩
 refine d5 (R:=λ_=>True) (b9 (λ_=>b8 trivial) (λ_=>b8 trivial)) (λo _=> ?_);refine b9 (λ_=>d5 (C3 ha ⟨b0,by simp;omega,by simp⟩) (λx hx=>b8 hx)) (λ_=> ?_);refine d5 (R:=λ_=>True) (b9 (λ_=>b8 trivial) (λ_=>b9 (λ_=>b8 trivial) (λ_=>b8 trivial))) (λo _=> ?_);refine b9 (λ_=>d5 (C3 ha hb) (λx hx=>b8 hx)) (λ_=> ?_);refine b9 (λ_=>b8 SW.zero) (λhne=> ?_)
 have hne:¬ (a.Lo=b.Lo/\a.Hi=b.Hi):=by
  grind
 refine b9 (λh1=>b8 ?_) (λh1=> ?_)
 ·have h1:a.Lo=b.Lo:=by simpa using h1
  rw [xW (by omega) (by omega)];exact ⟨by simp;omega,by simp;omega,by simpa using a2⟩
 refine b9 (λh2=>b8 ?_) (λ_=>b8 ha);have h1:a.Lo≠b.Lo:=by simpa using h1
 have h2:a.Hi=b.Lo:=by simpa using h2
 rw [xW (by omega) (by omega)];exact ⟨by simpa using a0,by simp;omega,by simp;omega⟩
theorem iy(l:List zi):OK (vA l) (λ_=>True):=by
 unfold vA;refine d5 (f9 (Q:=λ_=>True) (λ_ _=>True) trivial (λi s again hi _ k=> ?_) (λ_ _=>trivial)) (λo _=> ?_)
 ·unfold ku;exact f8 (i5 hi (λx _=>b9 (λ_=>b8 trivial) (λ_=>k _ trivial)))
 grind [b8]
theorem rL(l:List Int):OK (eN l) (λr=>r=0->∀x∈l,x=0):=by
 unfold eN;refine d5 (f9 (Q:=λo=>match o with|.inl _=>∀x∈l,x=0|.inr r=>r≠0) (λi _=>∀q x,q<i->l[q]? =some x->x=0) (λq x h=>by omega) (λi s again hi hI k=> ?_) (λ_ hI=> ?_)) (λo ho=> ?_)
 ·unfold mz;refine f8 (i5 hi (λx hx=>b9 (λh=>b8 (by simpa using h)) (λh=>k _ (λq y hq hy=> ?_))))
  grind
 ·intro x hx;obtain ⟨q,hq⟩:=List.mem_iff_getElem?.1 hx
  grind
 grind [b8]
theorem nY(a b:zg):OK (dx a b) (λr=>r=true↔a.Lo<=a.Hi/\b.Lo<=a.Lo/\a.Hi<=b.Hi):=by
 unfold dx;rw [iX];simp only [zbs];refine d5 (R:=λr=>r=true↔a.Lo<=a.Hi/\b.Lo<=a.Lo/\a.Hi<=b.Hi) ?_ (λx hx=>b8 hx);refine b9 (λh1=>b9 (λh2=>b8 ?_) (λh2=>b8 ?_)) (λh1=>b8 ?_)
 ·simp at h1 h2 |-;omega
 ·simp at h1 h2 |-;omega
 ·simp at h1 |-;omega
def C4(a b:zi):Prop:=(b.QJ=1->a.QJ=1/\a.Rh.Lo<=a.Rh.Hi/\b.Rh.Lo<=a.Rh.Lo/\a.Rh.Hi<=b.Rh.Hi)/\(b.QJ=2->a=b)
theorem MC{a b:zi}(h:((a.QJ==b.QJ)&&(((a.Rh.Lo==b.Rh.Lo)&&((a.Rh.Hi==b.Rh.Hi)&&true))&&((a.Rv==b.Rv)&&true)))=true):a=b:=by
 obtain ⟨k,⟨l,h1⟩,m⟩:=a;obtain ⟨k',⟨l',h1'⟩,m'⟩:=b
 grind
theorem CX(a b:zi):OK (iQ a b) (λr=>r=true->C4 a b):=by
 unfold iQ;refine b9 (λh1=> ?_) (λh1=>b9 (λh2=>b8 ?_) (λh2=>b8 ?_))
 ·have h1:b.QJ=1:=by simpa using h1
  refine d5 (R:=λr=>r=true->C4 a b) ?_ (λx hx=>b8 hx);refine b9 (λh2=>d5 (nY _ _) (λx hx=>b8 (λe=>⟨λ_=>⟨by simpa using h2,hx.1 e⟩,λe2=>by omega⟩))) (λ_=>b8 (λe=>by cases e))
 ·intro h;have h1:b.QJ≠1:=by simpa using h1
  exact ⟨λe=>absurd e h1,λ_=>MC h⟩
 ·intro _;have h1:b.QJ≠1:=by simpa using h1
  have h2:b.QJ≠2:=by simpa using h2
  exact ⟨λe=>absurd e h1,λe=>absurd e h2⟩
theorem wr(t:zi):OK (ga t) (λ_=>True):=by
 unfold ga;exact d5 (nY _ _) (λx _=>b9 (λ_=>b8 trivial) (λ_=>b8 trivial))
theorem mW(h:jX i=true)(ho:¬ (15<=i.Op/\i.Op<=20)):0<=i.D/\i.D<8:=by
 unfold jX at h;simp only [inB,sQ] at h;simp only [zae,q8,zdq,u6] at h
 iterate 11 (all_goals (try split at h))
 all_goals simp only [zae,q8,zdq,u6,zfe] at h
 all_goals omega
theorem mX(h:jX i=true):0<=i.A/\i.A<8:=by
 unfold jX at h;simp only [inB,sQ] at h;simp only [zae,q8,zdq,u6] at h
 iterate 11 (all_goals (try split at h))
 all_goals simp only [zae,q8,zdq,u6,zfe] at h
 all_goals omega
theorem lW(h:jX i=true):0<=i.Op/\i.Op<=22:=by
 unfold jX at h;simp only [inB,sQ] at h;simp only [zae,q8,zdq,u6] at h
 iterate 11 (all_goals (try split at h))
 all_goals simp only [zae,q8,zdq,u6,zfe] at h
 all_goals omega
theorem aZ(h:jX i=true)(ho:i.Op<=12\/(16<=i.Op/\i.Op<=19)):i.B=8\/(0<=i.B/\i.B<8):=by
 unfold jX at h;simp only [inB,sQ,NB] at h;simp only [zae,q8,zdq,u6] at h
 iterate 11 (all_goals (try split at h))
 all_goals simp only [zae,q8,zdq,u6,zfe] at h
 all_goals omega
theorem lA(h:jX i=true)(ho:i.Op=21):0<=i.RA/\i.RA<=6:=by
 unfold jX at h;simp only [inB,sQ] at h;simp [ho] at h;omega
theorem mY(h:jX i=true)(ho:i.Op=14):0<=i.RA/\i.RA<=3:=by
 grind [jX,inB,sQ]
theorem Fo{t:Int}(h0:0<=t)(h1:t<8):ain 8 t=some t.toNat:=by grind [ain]
theorem Oy{i:Nat}(h:i<n):ain n (i:Int)=some i:=by grind [ain]
theorem Ec(op:Int)(h0:0<=op)(h1:op<23):∃f,eF op=some (f,true)/\jr f 100=some (decide (op<=11)||decide (op=13)||decide (op=14))/\jr f 115=some (decide (op<=12)||(decide (16<=op)&&decide (op<=19))):=by
 have h:∀k:Fin 23,∃f,eF ((k:Nat):Int)=some (f,true)/\jr f 100=some (decide (((k:Nat):Int)<=11)||decide (((k:Nat):Int)=13)||decide (((k:Nat):Int)=14))/\jr f 115=some (decide (((k:Nat):Int)<=12)||(decide (16<=((k:Nat):Int))&&decide (((k:Nat):Int)<=19))):=by
  intro k
  have hk:∃f,eF ((k:Nat):Int)=some (f,true):=by
   obtain ⟨f,hf,_⟩:=HC ((k:Nat):Int) (by omega) (by omega);exact ⟨f,hf⟩
  obtain ⟨f,hf⟩:=hk;have key:∀k:Fin 23,((eF ((k:Nat):Int)).bind λr=>jr r.1 100)=some (decide (((k:Nat):Int)<=11)||decide (((k:Nat):Int)=13)||decide (((k:Nat):Int)=14))/\((eF ((k:Nat):Int)).bind λr=>jr r.1 115)=some (decide (((k:Nat):Int)<=12)||(decide (16<=((k:Nat):Int))&&decide (((k:Nat):Int)<=19))):=by decide+kernel
  grind
 obtain ⟨n,rfl⟩:=zof h0;exact h ⟨n,by omega⟩
theorem AU(h:jX i=true):OK (cw i) (λr=>r.2=true->0<=r.1/\r.1<8):=by
 have ho:=lW h;obtain ⟨f,h1,h2,_⟩:=Ec i.Op ho.1 (by omega);unfold cw;simp only [eX,h,h1,h2,zbs];refine b9 (λe=>by cases e) (λ_=>b9 (λe=>b8 (λ_=>mW h (by simp at e;omega))) (λ_=>b8 (λ_=>by simp)))
theorem pK(h:jX i=false):OK (cw i) (λr=>r.2=true->0<=r.1/\r.1<8):=by
 grind [cw,eX,b8]
theorem AV(h:jX i=true):iP i=some (decide (i.Op<=12)||(decide (16<=i.Op)&&decide (i.Op<=19))):=by
 have ho:=lW h
 grind [Ec,iP,eX]
def Lc(i:zf)(k:Nat->zi):zi:=if i.B==8 then ⟨1,⟨xX i.RA,xX i.RA⟩,0⟩ else k i.B.toNat
theorem Ed{k:Nat->zi}(h:i.B=8\/(0<=i.B/\i.B<8)):dL i k=some (Lc i k):=by
 unfold dL Lc;rcases zft (i.B==8) with e|e
 ·rw [d6 e,d6 e];rfl
 grind [Fo]
theorem wu{k:Nat->zi}(h:i.B=8\/(0<=i.B/\i.B<8))(hk:∀r,r<8->WT n (k r)):WT n (Lc i k):=by
 grind [Lc,WT.num,SW.one,jY]
structure JI (m:zH) (j:zj):Prop where
 SU:j.Rf=m
 SK:j.came.length=m.Code.length
 SG:j.any.length=m.Code.length
 lps:j.loops=lps m.Code m.Code.length
 wt:∀(q:Nat)(x:Nat->zi),j.came[q]? =some x->∀r,r<8->WT m.Maps.length (x r)
theorem aG{p:Nat}(h:p<xs.length):∃x,xs[p]? =some x/\idx xs (p:Int)=some x:=⟨xs[p],zeg h,IA h⟩
theorem Ld{p q:Nat}{v:α}(h:q≠p):(xs.set p v)[q]? =xs[q]? :=z9 (λe=>h e.symm)
theorem JI.put(h:JI m j){p:Nat}{x:Nat->zi}(hx:∀r,r<8->WT m.Maps.length (x r))(A:List Bool)(hA:A.length=m.Code.length):JI m {j with came:=j.came.set p x,any:=A}:=
 ⟨h.SU,by simpa using h.SK,hA,h.lps,λq y hy r hr=>by
  simp only at hy;by_cases hq:q=p
  ·grind
  ·rw [Ld hq] at hy;exact h.wt q y hy r hr⟩
theorem lB{x:Nat->zi}(hx:∀r,r<8->WT n (x r)){t:Nat}{v:zi}(hv:WT n v):∀r,r<8->WT n (aset x t v r):=by
 grind [aset]
theorem Hv(h:JI m j){p:Nat}(hp:p<m.Code.length){k:Nat->zi}(hk:∀r,r<8->WT m.Maps.length (k r)):
  OK (qZ j (p:Int) k) (λj'=>JI m j'/\j'.any=j.any.set p true/\∀q,q≠p->j'.came[q]? =j.came[q]?):=by
 unfold qZ;obtain ⟨a,ha,ha2⟩:=aG (xs:=j.any) (p:=p) (by rw [h.SG];exact hp)
 obtain ⟨c,hc,hc2⟩:=aG (xs:=j.came) (p:=p) (by rw [h.SK];exact hp)
 simp only [ha2,hc2,zbs,k6];refine b9 (λ_=>b8 ⟨h.put hk _ (by simpa using h.SG),rfl,λq hq=>Ld hq⟩) (λhn=> ?_);have hat:a=true:=by simpa using hn
 have hset:j.any.set p true=j.any:=by
  apply l8
  grind
 refine d5 (f9 (λ_ s=>JI m s/\s.any=j.any.set p true/\∀q,q≠p->s.came[q]? =j.came[q]?) ⟨h,hset.symm,λ_ _=>rfl⟩ (λi s again hi hI kk=> ?_) (λs hI=>hI)) (λo ho=>b8 ho);unfold dy;obtain ⟨c',hc',hc2'⟩:=aG (xs:=s.came) (p:=p) (by rw [hI.1.SK];exact hp)
 have w1:=hI.1.wt p c' hc' i hi;simp only [hc2',Oy hi,zbs,AQ w1.span (hk i hi).span,k6];exact kk _ ⟨hI.1.put (lB (hI.1.wt p c' hc') (w1.join (hk i hi))) _ hI.1.SG,hI.2.1,λq hq=>by grind⟩
theorem Ee{lo hi:Nat}(h1:lo<=hi)(h2:hi<=xs.length):cut xs (lo:Int) (hi:Int)=some ((xs.take hi).drop lo):=by
 unfold cut;rw [d6 ⟨by omega,by omega,by omega⟩];simp
theorem Ef(h:JI m j)(hg:As m.Code){p:Nat}(hp:p<m.Code.length):
  OK (xp j (p:Int)) (λj'=>JI m j'/\j'.any=j.any/\∀q,q≠p->j'.came[q]? =j.came[q]?):=by
 unfold xp;refine d5 (f9 (Q:=λj'=>JI m j'/\j'.any=j.any/\∀q,q≠p->j'.came[q]? =j.came[q]?) (λ_ s=>JI m {j with came:=s}/\∀q,q≠p->s[q]? =j.came[q]?) ⟨⟨h.SU,h.SK,h.SG,h.lps,h.wt⟩,λ_ _=>rfl⟩ (λi s again hi hI k=> ?_) (λs hI=>⟨hI.1,rfl,hI.2⟩)) (λo ho=>b8 ho);unfold cP;refine f8 (i5 hi (λl hl=>b9 (λ_=>k _ hI) (λhh=> ?_)));rw [h.lps] at hl;obtain ⟨a,ia,ha,hia,hop,rfl⟩:=mS.1 (zmg hl);have hlp:=hg.RW.loop hia hop;have hn:=hg.Tj;have e1:(jD ia a).RU=(((a:Int)-ia.D).toNat:Int):=by show (a:Int)-ia.D=_;omega
 have e2:w64 ((jD ia a).At+1)=((a+1:Nat):Int):=by show w64 ((a:Int)+1)=_;rw [qr (by omega) (by omega)];simp
 rw [e1,e2,h.SU,Ee (by omega) (by omega)];simp only [zbs];refine d5 (f9 (λ_ s=>JI m {j with came:=s}/\∀q,q≠p->s[q]? =j.came[q]?) hI (λi s again hi hI k=> ?_) (λs hI=>hI)) (λo ho=>k _ ho);unfold cO;refine f8 (i5 hi (λx hx=> ?_))
 have hr:OK (cw x) (λr=>r.2=true->0<=r.1/\r.1<8):=by
  grind [jX,AU,pK]
 refine d5 hr (λr hr=>b9 (λ_=>k _ hI) (λhw=> ?_));have hr:=hr (by simpa using hw);obtain ⟨c',hc',hc2'⟩:=aG (xs:=s) (p:=p) (by rw [show s.length=m.Code.length from hI.1.SK];exact hp)
 simp only [hc2',Fo hr.1 hr.2,zbs,gL,iV,k6];refine b9 (λ_=>k _ ⟨hI.1.put (lB (hI.1.wt p c' hc') (WT.num SW.full)) _ hI.1.SG,λq hq=>by grind⟩) (λ_=>k _ ⟨hI.1.put (lB (hI.1.wt p c' hc') WT.zero) _ hI.1.SG,λq hq=>by grind⟩)
end
open Go.Sx
def Way(code:List zf)(p q:Nat):Prop:=∃i,code[p]? =some i/\((jp i).2.2=true/\q=p+1\/(jp i).2.1=true/\0<(jp i).1/\(q:Int)=p+(jp i).1)
structure Fp (code:List zf) (p:Nat) (j j':zj):Prop where
 same:∀q:Nat,q<=p->j'.came[q]? =j.came[q]? /\j'.any[q]? =j.any[q]?
 keep:∀q:Nat,j.any[q]? =some true->j'.any[q]? =some true
 new:∀q:Nat,j'.any[q]? =some true->j.any[q]? =some true\/Way code p q
theorem Fp.refl(code:List zf)(p:Nat)(j:zj):Fp code p j j:=⟨λ_ _=>⟨rfl,rfl⟩,λ_ h=>h,λ_ h=>.inl h⟩
theorem Fp.trans{code:List zf}{p:Nat}{a b c:zj}(h:Fp code p a b)(k:Fp code p b c):Fp code p a c:=
 ⟨λq hq=>⟨(k.same q hq).1.trans (h.same q hq).1,(k.same q hq).2.trans (h.same q hq).2⟩,λq hq=>k.keep q (h.keep q hq),λq hq=>(k.new q hq).elim (λe=>h.new q e) .inr⟩
theorem MD{code:List zf}{p q:Nat}{j j':zj}(hA:j.any.length=code.length)(hq:p<q)(hw:Way code p q)(h1:j'.any=j.any.set q true)(h2:∀t,t≠q->j'.came[t]? =j.came[t]?):Fp code p j j':=by
 refine ⟨λt ht=>⟨h2 t (by omega),by grind⟩,λt ht=> ?_,λt ht=> ?_⟩
 ·grind
 grind
theorem Hw{i:zf}(h:(jp i).2.1=true):(0<(jp i).1/\15<=i.Op/\i.Op<=19/\(jp i).2.2=(i.Op !=15))\/((jp i).1<0/\i.Op=20/\(jp i).2.2=true):=by
 unfold jp at h |-;by_cases hj:ef i=true
 ·have:=pL hj
  grind
 ·rw [d8 hj] at h |-;by_cases hl:kK i=true
  ·have:=Eg hl
   grind
  grind
theorem Hx{m:zH}{j:zj}(h:JI m j)(hg:As m.Code){p:Nat}(hp:p<m.Code.length){k:Nat->zi}(hk:∀r,r<8->WT m.Maps.length (k r)):
  OK (xQ j (p:Int) k) (λj'=>JI m j'/\Fp m.Code p j j'):=by
 have hn:=hg.Tj;obtain ⟨i,hi,hi2⟩:=aG hp;have hr:=hg.RW.right hi;unfold xQ;rw [h.SU,hi2];simp only [lX,zbs];have e1:w64 ((p:Int)+1)=((p+1:Nat):Int):=by grind [qr]
 have step:∀{j:zj} {q:Nat} {k:Nat->zi},JI m j->p<q->q<m.Code.length->Way m.Code p q->(∀r,r<8->WT m.Maps.length (k r))->OK (qZ j (q:Int) k) (λj'=>JI m j'/\Fp m.Code p j j'):=
  λhj hq hqn hw hk=>(Hv hj hqn hk).mono (λj' hj'=>⟨hj'.1,MD hj.SG hq hw hj'.2.1 hj'.2.2⟩)
 refine b9 (λhc=>d5 (b9 (λhon=> ?_) (λ_=>b8 ⟨h,Fp.refl _ _ _⟩)) (λo ho=>b8 ho)) (λhc=> ?_)
 ·rw [e1];exact d5 (step h (by omega) (hg.RW.on hi hon) ⟨i,hi,.inl ⟨hon,rfl⟩⟩ hk) (λx hx=>b8 hx)
 have hl:(jp i).2.1=true/\0<=(jp i).1:=by grind
 have hd:0<(jp i).1:=by
  rcases Hw hl.1 with h1|h1
  ·exact h1.1
  ·omega
 have hlead:=hg.RW.leads hi hl.1;obtain ⟨q,hq⟩:=zof hlead.1;have eq:w64 ((p:Int)+(jp i).1)=(q:Int):=by grind [qr]
 have hq1:(q:Int)=p+(jp i).1:=hq.symm;have hwq:Way m.Code p q:=⟨i,hi,.inr ⟨hl.1,hd,hq1⟩⟩
 refine b9 (λ_=> ?_) (λhon=> ?_)
 ·grind
 have hon:(jp i).2.2=true:=by simpa using hon
 have hops:16<=i.Op/\i.Op<=19:=by
  grind [Hw]
 have hs:=aZ hr (.inr hops);have hA:=mX hr;rw [Ed hs];simp only [zbs];refine d5 (f9 (λ_ s=>JI m s/\Fp m.Code p j s) ⟨h,Fp.refl _ _ _⟩ (λt s again ht hI kk=> ?_) (λs hI=>hI)) (λo ho=>b8 ho);unfold dB;refine f8 (i5 (by simpa using ht) (λx hx=> ?_));refine d5 (R:=λ(o:Int)=>∃q':Nat,o=(q':Int)/\p<q'/\q'<m.Code.length/\Way m.Code p q') ?_ (λo ho=> ?_)
 ·refine b9 (λ_=>b8 ⟨p+1,e1,by omega,hg.RW.on hi hon,i,hi,.inl ⟨hon,rfl⟩⟩) (λ_=>b8 ⟨q,eq,by omega,by omega,hwq⟩)
 obtain ⟨q',rfl,hq1',hq2',hw'⟩:=ho;rw [Fo hA.1 hA.2];simp only [zbs];refine d5 (R:=λr=>SW r.1) (d5 (AR (hk _ (by omega)).span (wu hs hk).span) (λr hr=>b8 hr)) (λr hr=> ?_);refine b9 (λ_=> ?_) (λ_=>kk _ hI);simp only [iV,zbs];exact d5 (step hI.1 hq1' hq2' hw' (lB hk (WT.num hr))) (λx hx=>kk _ ⟨hx.1,hI.2.trans hx.2⟩)
theorem C5:∀k:Fin 7,∃l,xS 2199023255552 ((k:Nat):Int)=some l/\l.length<=3:=by
 have h:∀k:Fin 7,∃n:Fin 4,(xS 2199023255552 ((k:Nat):Int)).map (·.length)=some (n:Nat):=by decide+kernel
 intro k;obtain ⟨n,hn⟩:=h k;obtain ⟨l,h1,h2⟩:=yy.1 hn
 grind
theorem AW:∀k:Fin 7,∃s,cQ ((k:Nat):Int)=some (s,true)/\0<=s.most/\s.most<18446744073709551616:=by
 intro k;have h:∀k:Fin 7,((cQ ((k:Nat):Int)).map (λr=>r.2&&decide (0<=r.1.most)&&decide (r.1.most<18446744073709551616)))=some true:=by decide+kernel
 obtain ⟨⟨s,b⟩,h1,h2⟩:=yy.1 (h k)
 grind
theorem Hy(k:Fin 7){l:List zi}(ha:xS 2199023255552 ((k:Nat):Int)=some l)(ys:List zi):OK (eO 2199023255552 ((k:Nat):Int) ys) (λ_=>True):=by
 obtain ⟨s,h1,_⟩:=AW k;unfold eO;simp only [h1,ha,zbs];refine b9 (λ_=>b8 trivial) (λ_=>b9 (λ_=>b8 trivial) (λhl=> ?_))
 have hl:l.length=ys.length:=by
  grind
 refine d5 (f9 (Q:=λ_=>True) (λ_ _=>True) trivial (λi s again hi _ kk=> ?_) (λ_ _=>trivial)) (λo _=> ?_)
 ·unfold kx;refine f8 (i5 hi (λx _=>f8 (i5 (by omega) (λy _=> ?_))));refine b9 (λ_=>b8 trivial) (λ_=>d5 (R:=λ_=>True) ?_ (λo _=>b9 (λ_=>b8 trivial) (λ_=>kk _ trivial)));exact b9 (λ_=>d5 (nY _ _) (λx _=>b8 trivial)) (λ_=>b8 trivial)
 grind [b8]
def One(m:zH)(j:zj)(p:Nat)(r:(Nat->zi)×Int):Prop:=
 r.2=0->(∀q,q<8->WT m.Maps.length (r.1 q))/\∀i,m.Code[p]? =some i->i.Op=20->∀q,q<8->∀x h,j.came[p]? =some x->j.came[((p:Int)-i.D).toNat]? =some h->C4 (x q) (h q)
theorem Le{m:zH}{j:zj}(h:JI m j)(hg:As m.Code){p:Nat}(hp:p<m.Code.length):
  OK (vo 2199023255552 j (p:Int)) (One m j p):=by
 have hn:=hg.Tj;obtain ⟨i,hi,hi2⟩:=aG hp;obtain ⟨k,hk1,hk2⟩:=aG (xs:=j.came) (p:=p) (by rw [h.SK];exact hp)
 have hk:=h.wt p k hk1;have hr:=hg.RW.right hi;have hop:=lW hr;have hA:=mX hr;unfold vo;rw [h.SU,hi2,hk2];simp only [zbs,AV hr]
 have notLoop:∀{r:(Nat->zi)×Int},i.Op≠20->(r.2=0->∀q,q<8->WT m.Maps.length (r.1 q))->One m j p r:=by
  intro r hne hw h0
  grind
 refine d5 (R:=λt=>WT m.Maps.length t) ?_ (λs hs=> ?_)
 ·refine b9 (λhsrc=> ?_) (λ_=>b8 WT.zero)
  grind [aZ,Ed,b8,wu]
 rw [Fo hA.1 hA.2];simp only [zbs,gL,iV];have hD:¬ (15<=i.Op/\i.Op<=20)->ain 8 i.D=some i.D.toNat:=λh=>Fo (mW hr h).1 (mW hr h).2
 have kw:∀{v:zi} {t:Nat},WT m.Maps.length v->∀q,q<8->WT m.Maps.length (aset k t v q):=λhv=>lB hk hv
 refine b9 (λe=> ?_) (λe0=> ?_)
 ·have e:i.Op=0:=by simpa using e
  refine b9 (λ_=>b8 (notLoop (by omega) (λh=>by simp at h))) (λ_=> ?_)
  grind [b8]
 refine b9 (λe=> ?_) (λe11=> ?_)
 ·have e:i.Op=11:=by simpa using e
  rw [hD (by omega)];simp only [zbs];exact d5 (iy _) (λa _=>d5 (wr _) (λb _=>d5 (rL _) (λc _=>b8 (notLoop (by omega) (λ_=>kw (WT.num SW.full))))))
 refine b9 (λe=> ?_) (λe12=> ?_)
 ·grind [d5,iy,wr,rL,b8]
 refine b9 (λe=> ?_) (λe13=> ?_)
 ·grind [b8,WT.num,SW.full]
 refine b9 (λe=> ?_) (λe14=> ?_)
 ·have e:i.Op=14:=by simpa using e
  have him:=mY hr e;rw [hD (by omega)];simp only [zbs];refine b9 (λ_=>b8 (notLoop (by omega) (λh=>by simp at h))) (λhlt=>b8 (notLoop (by omega) (λ_=>kw (.inr (.inr ⟨rfl,rfl,him.1,?_⟩)))))
  grind
 refine b9 (λe=> ?_) (λe15=> ?_)
 ·grind [b8]
 refine d5 (R:=λo=>o=inB i.Op 16 19) ?_ (λo ho=> ?_)
 ·refine b9 (λe=>b8 ?_) (λe=>b9 (λe=>b8 ?_) (λe2=>b9 (λe=>b8 ?_) (λe3=>b8 ?_)))
  ·grind [inB]
  ·grind [inB]
  ·grind [inB]
  grind [inB]
 refine b9 (λe=> ?_) (λe16=> ?_)
 ·grind [inB,d5,iy,b8]
 refine b9 (λe=> ?_) (λe20=> ?_)
 ·have e:i.Op=20:=by simpa using e
  have hlp:=hg.RW.loop hi e;have ew:w64 ((p:Int)-i.D)=(((p:Int)-i.D).toNat:Int):=by grind [qr]
  obtain ⟨hd,hd1,hd2⟩:=aG (xs:=j.came) (p:=((p:Int)-i.D).toNat) (by rw [h.SK];omega);refine d5 (iy _) (λa _=>b9 (λha=>b8 (λh0=>absurd h0 (by simpa using ha))) (λ_=> ?_));refine d5 (f9 (Q:=λo=>match o with|.inl _=>∀q,q<8->C4 (k q) (hd q)|.inr r=>r.2≠0) (λt _=>∀q,q<t->C4 (k q) (hd q)) (λq hq=>by omega) (λt s again ht hI kk=> ?_) (λ_ hI=>hI)) (λo ho=> ?_)
  ·unfold dY;simp only [Oy ht,ew,hd2,zbs];refine d5 (CX _ _) (λr hr=>b9 (λ_=>b8 (by simp)) (λhn=>kk _ (λq hq=> ?_)))
   grind
  ·cases o with
   |inl _=>
    refine b8 (λ_=>⟨hk,λi' hi' _ q hq x hx h1 h2=> ?_⟩)
    grind
   |inr r=>exact b8 (λh0=>absurd h0 ho)
 refine b9 (λe=> ?_) (λe21=> ?_)
 ·have e:i.Op=21:=by simpa using e
  have him:=lA hr e;obtain ⟨n,hn⟩:=zof him.1;rw [hn];obtain ⟨l,hl,hl3⟩:=C5 ⟨n,by omega⟩;obtain ⟨sg,hs1,hs2,hs3⟩:=AW ⟨n,by omega⟩;have hl':xS 2199023255552 (n:Int)=some l:=hl;have hs1':cQ (n:Int)=some (sg,true):=hs1;simp only [hl',zbs];have ec:w64 (1+(l.length:Int))=((1+l.length:Nat):Int):=by grind [qr]
  have ec1:(1:Int)=((1:Nat):Int):=rfl
  have hcut:∃ys,cut (Gs 8 k) 1 (w64 (1+(l.length:Int)))=some ys:=by
   rw [ec];exact ⟨_,Ee (lo:=1) (by omega) (by grind [np])⟩
  obtain ⟨ys,hys⟩:=hcut;rw [hys];simp only [zbs];refine d5 (Hy ⟨n,by omega⟩ hl ys) (λr _=> ?_);unfold gE;simp only [hs1',zbs];refine b8 (notLoop (by omega) (λ_=> ?_));exact kw (WT.num ⟨by simp,by simpa using hs2,by simpa using hs3⟩)
 refine b9 (λe=> ?_) (λe22=> ?_)
 ·grind [d5,iy,b8]
 simp only [beq_eq_false_iff_ne,ne_eq] at e0 e11 e12 e13 e14 e15 e20 e21 e22
 have e16':¬ (16<=i.Op/\i.Op<=19):=by
  grind [inB]
 refine d5 (OL (hk _ (by omega)).span hs.span) (λr hr=> ?_)
 grind [d5,iy,b8,WT.num]
open Go.Sx
theorem sM(l:List Int)(m:Int):zY l m=some (l.contains m):=by
 unfold zY xg;rw [oS (λi=>if (l[i]? ==some m) then some (i:Int) else none) (N:=l.length)]
 ·simp only [zbs];cases hf:eV (λi=>if (l[i]? ==some m) then some (i:Int) else none) l.length 0 with
  |some v=>
   grind [gj,uT]
  |none=>
   have:=gk hf
   have hm:m∉l:=by
    intro hm;obtain ⟨j,hj,rfl⟩:=t8.1 hm
    grind
   simp [uT,hm]
 grind [aN,IA]
def sN(l:List Int):Prop:=(∀x∈l,0<=x/\x<4)/\l.Nodup/\l.length<=4
theorem ur{l:List Int}{i:Nat}(h:i<l.length):(l.take (i+1)).Nodup↔(l.take i).Nodup/\l[i]∉l.take i:=by
 rw [ye,zeg h]
 grind
theorem Hz(l:List Int):OK (iN l) (λr=>r=true↔sN l):=by
 unfold iN;refine d5 (f9 (Q:=λo=>match o with|.inl _=>(∀x∈l,0<=x/\x<4)/\l.Nodup|.inr r=>r=false/\¬ sN l) (λi _=>(∀x∈l.take i,0<=x/\x<4)/\(l.take i).Nodup) (by simp) (λi s again hi hI k=> ?_) (λs hI=> ?_)) (λo ho=> ?_)
 ·unfold nC;simp only [IA hi,zbs,uX (show i<=l.length by omega),sM];refine d5 (R:=λo=>o=true↔¬ (0<=l[i]/\l[i]<4/\l[i]∉l.take i)) ?_ (λo ho=> ?_)
  ·refine b9 (λh=>b8 ?_) (λh=>b9 (λh2=>b8 ?_) (λh2=>b8 ?_))
   ·grind
   ·grind
   grind
  refine b9 (λh=>b8 ⟨rfl,λhg=> ?_⟩) (λh=>k _ ?_)
  ·have:=(ur hi).1 (hg.2.1.sublist (List.take_sublist _ _));have hm:=hg.1 l[i] (yg _)
   grind
  ·have hh:0<=l[i]/\l[i]<4/\l[i]∉l.take i:=Classical.byContradiction (λhc=>by grind);refine ⟨λx hx=> ?_,(ur hi).2 ⟨hI.2,hh.2.2⟩⟩;rw [ye,zeg hi] at hx
   grind
 ·simpa using hI
 ·cases o with
  |inl _=>
   refine b8 ?_;simp only [zdq];exact ⟨λh=>⟨ho.1,ho.2,by omega⟩,λh=>by have:=h.2.2;omega⟩
  |inr r=>exact b8 ⟨λh=>(by grind),λh=>absurd h ho.2⟩
def NA(code:List zf)(j:zj):Prop:=∀(q a:Nat)(ia:zf),j.any[q]? =some true->code[a]? =some ia->ia.Op=20->(a:Int)-ia.D<q->q<=a->j.any[((a:Int)-ia.D).toNat]? =some true
theorem NA.ways{code:List zf}(hg:As code){p:Nat}{j j':zj}(h:NA code j)(hp:j.any[p]? =some true)(hw:Fp code p j j'):NA code j':=by
 intro q a ia hq ha ho h1 h2;have hlp:=hg.RW.loop ha ho;rcases hw.new q hq with h3|⟨i,hi,hway⟩
 ·exact hw.keep _ (h q a ia h3 ha ho h1 h2)
 ·
  by_cases hin:(a:Int)-ia.D<=p/\p<=a
  ·by_cases hh:(p:Int)=a-ia.D
   ·rw [<- hh];exact hw.keep _ (by simpa using hp)
   ·exact hw.keep _ (h p a ia hp ha ho (by omega) hin.2)
  ·exfalso
   rcases hway with ⟨hon,rfl⟩|⟨hl,hd,hqd⟩
   ·omega
   ·refine hg.en p (zes.1 hi).1 ⟨i,hi,hl,hd,a,ia,q,(zes.1 ha).1,ha,ho,hqd,(eW ha ho).2 ⟨by omega,by omega⟩,?_,by omega⟩
    grind [lu,eW]
structure Fq (m:zH) (n:Nat) (j:zj):Prop where
 ji:JI m j
 zero:j.any[0]? =some true
 Ty:NA m.Code j
 SL:∀(p:Nat)(i:zf),p<n->m.Code[p]? =some i->i.Op=20->j.any[p]? =some true->∀q,q<8->∀x h,j.came[p]? =some x->j.came[((p:Int)-i.D).toNat]? =some h->C4 (x q) (h q)
theorem CP{m:zH}{j:zj}{n:Nat}(h:Fq m n j)(hg:As m.Code)(hn:n<m.Code.length)(again:zj->Option (zj⊕((Option zj)×Int×Int)))
  {Q:(zj⊕((Option zj)×Int×Int))->Prop} (hk:∀j',Fq m (n+1) j'->OK (again j') Q) (he:∀e,e≠0->Q (.inr (none,(n:Int),e))):OK (bQ 2199023255552 n again j) Q:=by
 unfold bQ;obtain ⟨a,ha,ha2⟩:=aG (xs:=j.any) (p:=n) (by rw [h.ji.SG];exact hn)
 simp only [ha2,zbs];refine b9 (λhf=> ?_) (λhf=> ?_)
 ·have hf:a=false:=by simpa using hf
  refine hk j {h with SL:=λp i hp hi ho hany=> ?_};by_cases e:p=n
  ·grind
  ·exact h.SL p i (by omega) hi ho hany
 have hat:j.any[n]? =some true:=by grind
 refine d5 (Ef h.ji hg hn) (λj1 ⟨hj1,ha1,hc1⟩=> ?_);refine d5 (Le hj1 hg hn) (λr hr=> ?_);refine b9 (λe=>b8 (he _ (by simpa using e))) (λe=> ?_);have hr:=hr (by simpa using e);refine d5 (Hx hj1 hg hn hr.1) (λj2 ⟨hj2,hw⟩=>hk j2 ?_);have hcl:NA m.Code j1:=by intro q a ia;rw [ha1];exact h.Ty q a ia
 refine ⟨hj2,hw.keep _ (by rw [ha1];exact h.zero),hcl.ways hg (by rw [ha1];exact hat) hw,λp i hp hi ho hany q hq x hh hx hhd=> ?_⟩
 have hlp:=hg.RW.loop hi ho;rw [(hw.same p (by omega)).1] at hx;rw [(hw.same _ (by omega)).1] at hhd;rw [(hw.same p (by omega)).2,ha1] at hany;by_cases e:p=n
 ·grind
 ·rw [hc1 p e] at hx;rw [hc1 _ (by omega)] at hhd;exact h.SL p i (by omega) hi ho hany q hq x hh hx hhd
structure Oz (m:zH) (r:(Option zj)×Int×Int):Prop where
 Tx:r.2.1=0\/0<=r.2.1/\r.2.1<m.Code.length
 SZ:r.2.2=0->r.2.1=0/\As m.Code/\sN m.Maps/\∃j,r.1=some j/\Fq m m.Code.length j
 bad:r.2.2≠0->r.1=none
theorem OB{m:zH}(hg:As m.Code):Fq m 0 ⟨m,List.replicate m.Code.length (λ_=>nX),(List.replicate m.Code.length false).set 0 true,lps m.Code m.Code.length⟩:=by
 have hn:=hg.n1;refine ⟨⟨rfl,by simp,by simp,rfl,λq x hx r _=> ?_⟩,by grind,λq a ia hq ha ho h1 h2=> ?_,λp i hp=>by omega⟩
 ·grind [MZ,WT.zero]
 grind
theorem AX(m:zH):OK (xj 2199023255552 m) (Oz m):=by
 unfold xj;refine d5 (Hz _) (λg hgm=> ?_);refine b9 (λ_=>b8 ⟨.inl rfl,λh=>by simp at h,λ_=>rfl⟩) (λhgt=> ?_);have hgm:=hgm.1 (by simpa using hgt);obtain ⟨r,h1,h2,h3,h4⟩:=sk m.Code;simp only [h1,zbs];refine b9 (λhr=>b8 ⟨h2,λh=>absurd h (by simpa using hr),λ_=>rfl⟩) (λhr=> ?_);have hg:=(h3 (by simpa using hr)).2;have hn:=hg.Tj;have hn1:=hg.n1;refine d5 (R:=λo=>o=zj.mk m (List.replicate m.Code.length (λ_=>nX)) (List.replicate m.Code.length false) []) ?_ (λo ho=> ?_)
 ·grind [f8,OK.mkl,b8,nX]
 subst ho;simp only [ue hg,zbs]
 have e0:idx (List.replicate m.Code.length false) 0=some false:=by
  grind [IA]
 rw [e0];simp only [zbs];refine d5 (f9 (Q:=λo=>match o with|.inl j=>Fq m m.Code.length j|.inr r=>r.1=none/\r.2.2≠0/\0<=r.2.1/\r.2.1<m.Code.length) (λi s=>Fq m i s) ?_ (λi s again hi hI k=>CP hI hg hi again k (λe he=>⟨rfl,he,by simp,by simpa using hi⟩)) (λs hI=>hI)) (λo ho=> ?_)
 ·grind [OB]
 ·cases o with
  |inl j=>exact b8 ⟨.inl rfl,λ_=>⟨rfl,hg,hgm,j,rfl,ho⟩,λh=>absurd rfl h⟩
  |inr r=>exact b8 ⟨.inr ho.2.2,λh=>absurd h ho.2.1,λ_=>ho.1⟩
theorem JV(m:zH):OK (vT 2199023255552 m) (λr=>(r.1=0\/0<=r.1/\r.1<m.Code.length)):=by
 unfold vT;refine d5 (AX m) (λr hr=> ?_);obtain ⟨o,p,e⟩:=r;cases o with
 |none=>exact OK.none_ (b8 hr.Tx)
 |some j=>exact OK.some_ (b8 hr.Tx)
def known(j:zj)(p:Nat):List zi:=match j.any[p]?,j.came[p]? with
 |some true,some c=>Gs 8 c
 |_,_=>[]
open Go.Sx
def inS(s:zg)(n:Int):Prop:=s.Lo<=n/\n<=s.Hi
def sem(x:zi)(n:Int):Prop:=(x.QJ=1->inS x.Rh n)/\(x.QJ=2->n=x.Rv)
def u64(n:Int):Prop:=0<=n/\n<18446744073709551616
theorem kB{n:Int}(h:u64 n):inS ⟨0,18446744073709551615⟩ n:=by
 obtain ⟨h0,h1⟩:=h;exact ⟨h0,by grind⟩
def ar(op x y:Int):Int:=
 if op==1 then xX (x+y) else if op==2 then xX (x-y) else if op==3 then xX (x*y)
 else if op==4 then (if y==0 then 0 else xX (x.tdiv y)) else if op==5 then (if y==0 then x else x.tmod y)
 else if op==6 then uB .u64 x y else if op==7 then bOr .u64 x y else if op==8 then Lh .u64 x y
 else if op==9 then uC .u64 x y else if op==10 then ic .u64 x y else 0
theorem wy{op x y:Int}(hx:u64 x)(hy:u64 y):fT op x y=some (ar op x y,decide (1<=op)&&decide (op<=10)):=by
 obtain ⟨r,h1,_,_,h4⟩:=wF (op:=op) hx.1 hx.2 hy.1 hy.2;rw [h1,<- h4]
 have key:r.1=ar op x y:=by
  unfold fT at h1;unfold ar;rcases zft (op==1) with e|e
  ·grind
  rw [d8 (by simp [e])] at h1 |-;rcases zft (op==2) with e|e
  ·grind
  rw [d8 (by simp [e])] at h1 |-;rcases zft (op==3) with e|e
  ·grind
  rw [d8 (by simp [e])] at h1 |-;rcases zft (op==4) with e|e
  ·grind [lI]
  rw [d8 (by simp [e])] at h1 |-;rcases zft (op==5) with e|e
  ·grind [lI]
  rw [d8 (by simp [e])] at h1 |-;rcases zft (op==6) with e|e
  ·grind
  rw [d8 (by simp [e])] at h1 |-;rcases zft (op==7) with e|e
  ·grind
  rw [d8 (by simp [e])] at h1 |-;rcases zft (op==8) with e|e
  ·grind
  rw [d8 (by simp [e])] at h1 |-;rcases zft (op==9) with e|e
  ·rw [d6 e] at h1 |-;rw [eY hy.1] at h1;cases h1;rfl
  rw [d8 (by simp [e])] at h1 |-;rcases zft (op==10) with e|e
  ·rw [d6 e] at h1 |-;rw [eY hy.1] at h1;cases h1;rfl
  grind
 rw [<- key]
theorem OE{op x y:Int}(hx:u64 x)(hy:u64 y):u64 (ar op x y):=by
 obtain ⟨r,h1,h2,h3,_⟩:=wF (op:=op) hx.1 hx.2 hy.1 hy.2;rw [wy hx hy] at h1;cases h1;exact ⟨h2,h3⟩
theorem SW.in_{s:zg}{n:Int}(h:SW s)(hn:inS s n):u64 n:=⟨by have:=h.1;have:=hn.1;omega,by have:=h.2.2;have:=hn.2;omega⟩
section
variable {a b:zg} {x y:Int}
theorem OG(ha:SW a)(hb:SW b)(hx:inS a x)(hy:inS b y):OK (ky a b) (λr=>inS r (xX (x+y))):=by
 obtain ⟨a0,a1,a2⟩:=ha;obtain ⟨b0,b1,b2⟩:=hb;obtain ⟨x0,x1⟩:=hx;obtain ⟨y0,y1⟩:=hy;unfold ky EV;rw [d6 ⟨by omega,by omega,by omega,by omega⟩];simp only [zbs,gL];refine b9 (λh=>b8 (kB (jY _))) (λh=>b8 ?_);have h1:=yx h;have h2:a.Hi+b.Hi<18446744073709551616:=by omega
 rw [xW (x:=x+y) (by omega) (by omega)];constructor
 ·grind [xX,xW]
 grind
theorem FA(ha:SW a)(hb:SW b)(hx:inS a x)(hy:inS b y):OK (bO a b) (λr=>inS r (xX (x*y))):=by
 have ux:=ha.in_ hx;have uy:=hb.in_ hy;obtain ⟨al,ah⟩:=a;obtain ⟨bl,bh⟩:=b;obtain ⟨a0,a1,a2⟩:=ha;obtain ⟨b0,b1,b2⟩:=hb;obtain ⟨x0,x1⟩:=hx;obtain ⟨y0,y1⟩:=hy;simp only at a0 a1 a2 b0 b1 b2 x0 x1 y0 y1;obtain ⟨al,rfl⟩:=zof a0;obtain ⟨bl,rfl⟩:=zof b0;obtain ⟨ah,rfl⟩:=zof (show 0<=ah by omega);obtain ⟨bh,rfl⟩:=zof (show 0<=bh by omega);obtain ⟨x,rfl⟩:=zof ux.1;obtain ⟨y,rfl⟩:=zof uy.1;unfold bO;obtain ⟨hi,h1,h2⟩:=OI (x:=ah) (y:=bh) (by omega) (by omega);simp only [h1,zbs,gL];refine b9 (λh=>b8 (kB (jY _))) (λh=>b8 ?_);have h3:=yx h
 have h4:ah*bh<18446744073709551616:=by
  grind
 have h5:al*bl<=x*y:=Qz (by omega) (by omega);have h6:x*y<=ah*bh:=Qz (by omega) (by omega);simp only [<- Int.natCast_mul];rw [wuN h4,wuN (show x*y<_ by omega),wuN (show al*bl<_ by omega)];exact ⟨y7.2 h5,y7.2 h6⟩
theorem FB(ha:SW a)(hb:SW b)(hx:inS a x)(hy:inS b y):OK (bP a b) (λr=>inS r (if y==0 then 0 else xX (x.tdiv y))):=by
 have ux:=ha.in_ hx;have uy:=hb.in_ hy;obtain ⟨al,ah⟩:=a;obtain ⟨bl,bh⟩:=b;obtain ⟨a0,a1,a2⟩:=ha;obtain ⟨b0,b1,b2⟩:=hb;obtain ⟨x0,x1⟩:=hx;obtain ⟨y0,y1⟩:=hy;simp only at a0 a1 a2 b0 b1 b2 x0 x1 y0 y1;obtain ⟨al,rfl⟩:=zof a0;obtain ⟨bl,rfl⟩:=zof b0;obtain ⟨ah,rfl⟩:=zof (show 0<=ah by omega);obtain ⟨bh,rfl⟩:=zof (show 0<=bh by omega);obtain ⟨x,rfl⟩:=zof ux.1;obtain ⟨y,rfl⟩:=zof uy.1;obtain ⟨_,ux⟩:=ux;unfold bP;refine b9 (λh=>b8 ?_) (λh=> ?_)
 ·split
  ·exact ⟨by simp,by grind⟩
  ·rw [wE,wuN (by have:=Nat.div_le_self x y;omega)];have:=Nat.div_le_self x y;refine ⟨?_,?_⟩
   ·grind
   grind
 ·have hb:(bl:Int)≠0:=by simpa using h
  have hyz:((y:Int)==0)=false:=by simp;omega
  rw [lI (show (bh:Int)≠0 by omega)];simp only [zbs];rw [lI hb,hyz];simp only [zbs,wE];have h1:al / bh<=x / y:=t5 (Nat.div_le_div_right (by omega)) (Nat.div_le_div_left (by omega) (by omega));have h2:x / y<=ah / bl:=t5 (Nat.div_le_div_right (by omega)) (Nat.div_le_div_left (by omega) (by omega));have h3:=Nat.div_le_self ah bl;rw [wuN (show al / bh<_ by omega),wuN (show ah / bl<_ by omega)];refine b8 ?_;rw [d8 (by simp),wuN (show x / y<_ by omega)];exact ⟨y7.2 h1,y7.2 h2⟩
theorem MO(ha:SW a)(hb:SW b)(hx:inS a x)(hy:inS b y):OK (gF a b) (λr=>inS r (if y==0 then x else x.tmod y)):=by
 have ux:=ha.in_ hx;have uy:=hb.in_ hy;obtain ⟨a0,a1,a2⟩:=id ha;obtain ⟨b0,b1,b2⟩:=id hb;obtain ⟨x0,x1⟩:=id hx;obtain ⟨y0,y1⟩:=id hy;obtain ⟨x,rfl⟩:=zof ux.1;obtain ⟨y,rfl⟩:=zof uy.1;have e:(x:Int).tmod (y:Int)=((x%y:Nat):Int):=rfl;have hm:=Nat.mod_le x y;unfold gF;refine b9 (λh=>b8 ?_) (λh=> ?_)
 ·split
  ·exact ⟨by grind,x1⟩
  ·rw [e];exact ⟨by grind,by grind⟩
 have hb0:b.Lo≠0:=by simpa using h
 have hyz:((y:Int)==0)=false:=by simp;omega
 rw [hyz];simp only [zfe,if_false];refine b9 (λh2=>b8 ?_) (λh2=>b8 ?_)
 ·have h2:=yd h2;rw [e,QA (by omega)];exact hx
 ·rw [e,xW (by omega) (by omega)];have:=Nat.mod_lt x (show 0<y by omega);refine ⟨by grind,?_⟩
  grind [ma]
theorem HU{n:Int}(h0:0<=n)(h1:n<18446744073709551616):OK (fm n) (λr=>∃k:Nat,k<=64/\r=((2^k-1:Nat):Int)/\n.toNat<2^k):=by
 obtain ⟨n,rfl⟩:=zof h0;obtain ⟨k,k1,k2,k3,_⟩:=rN (n:=n) (by omega);unfold fm;simp only [k2,zbs];rw [eY (by omega)];refine b8 ⟨k,k1,?_,by simpa using k3⟩
 have e:uC .u64 1 (k:Int)=((2^k%18446744073709551616:Nat):Int):=by
  grind [oh]
 show xX (uC .u64 1 (k:Int)-1)=_;rw [e];by_cases hk:k=64
 ·grind [rM]
 ·have h2:(2:Nat)^k<=2^63:=Nat.pow_le_pow_right (by omega) (by omega)
  grind [xW]
theorem MP(ha:SW a)(hb:SW b)(hx:inS a x)(hy:inS b y):OK (gG a b) (λr=>inS r (uC .u64 x y)):=by
 have ux:=ha.in_ hx;have uy:=hb.in_ hy;obtain ⟨al,ah⟩:=a;obtain ⟨bl,bh⟩:=b;obtain ⟨a0,a1,a2⟩:=ha;obtain ⟨b0,b1,b2⟩:=hb;obtain ⟨x0,x1⟩:=hx;obtain ⟨y0,y1⟩:=hy;simp only at a0 a1 a2 b0 b1 b2 x0 x1 y0 y1;obtain ⟨al,rfl⟩:=zof a0;obtain ⟨bl,rfl⟩:=zof b0;obtain ⟨ah,rfl⟩:=zof (show 0<=ah by omega);obtain ⟨x,rfl⟩:=zof ux.1;obtain ⟨k,k1,k2,k3,k4,k5⟩:=rN (n:=ah) (by omega);unfold gG xP;simp only [k2,zbs,gL];refine d5 (R:=λo=>o=false->(bl:Int)=bh/\(k=0\/k+bl<=64)) ?_ (λo ho=> ?_)
 ·refine b9 (λ_=>b8 (by simp)) (λhs=>b9 (λh1=> ?_) (λh1=>b8 (λ_=>⟨by simpa using hs,.inl ?_⟩)))
  ·refine b9 (λ_=>b8 (by simp)) (λh2=>b8 (λh3=>⟨by simpa using hs,.inr ?_⟩))
   grind [xW]
  grind
 ·refine b9 (λ_=>b8 (kB (H1 _ _))) (λh=> ?_);obtain ⟨hs,ho⟩:=ho h;have hyb:y=(bl:Int):=by omega
  subst hyb;rw [eY (by omega)];simp only [zbs];refine b8 ?_
  have e:∀n:Nat,uC .u64 (n:Int) (bl:Int)=((n*2^(min bl 64)%18446744073709551616:Nat):Int):=by
   grind [oh]
  rw [e,e,e];rcases ho with hk|hk
  ·have h6:ah=0:=by subst hk;simp at k3;omega
   have h7:al=0:=by omega
   have h8:x=0:=by omega
   subst h6;subst h7;subst h8;exact ⟨by simp,by simp⟩
  ·rw [show min bl 64=bl by omega]
   have h6:ah*2^bl<18446744073709551616:=by
    have h7:ah*2^bl<2^k*2^bl:=Nat.mul_lt_mul_of_pos_right k3 (Nat.pow_pos (by omega));rw [<- Nat.pow_add] at h7;have h8:(2:Nat)^(k+bl)<=2^64:=Nat.pow_le_pow_right (by omega) hk;omega
   have h9:al*2^bl<=x*2^bl:=p6 _ (by omega);have h10:x*2^bl<=ah*2^bl:=p6 _ (by omega);rw [QA h6,QA (show x*2^bl<_ by omega),QA (show al*2^bl<_ by omega)];exact ⟨y7.2 h9,y7.2 h10⟩
theorem PO{op:Int}(ha:SW a)(hb:SW b)(hx:inS a x)(hy:inS b y)(o1:1<=op)(o2:op<=10):OK (mP op a b) (λr=>inS r.1 (ar op x y)):=by
 have ux:=ha.in_ hx;have uy:=hb.in_ hy;obtain ⟨a0,a1,a2⟩:=id ha;obtain ⟨b0,b1,b2⟩:=id hb;obtain ⟨x0,x1⟩:=id hx;obtain ⟨y0,y1⟩:=id hy;unfold mP;rw [wy (op:=op) (x:=a.Lo) (y:=b.Lo) ⟨a0,by omega⟩ ⟨b0,by omega⟩];simp only [lz ha,lz hb,zbs];refine d5 (R:=λo=>o=false) ?_ (λo ho=> ?_)
 ·refine b9 (λh=> ?_) (λh=>b9 (λh=>by cases h) (λ_=>b8 rfl))
  grind
 subst ho;refine b9 (λh=>by cases h) (λ_=> ?_);unfold xP;refine d5 (R:=λo=>o=true->a.Lo=a.Hi/\b.Lo=b.Hi) ?_ (λo ho=> ?_)
 ·exact b9 (λh1=>b8 (λh2=>⟨by simpa using h1,by simpa using h2⟩)) (λ_=>b8 (λh=>by cases h))
 refine b9 (λh=> ?_) (λ_=> ?_)
 ·obtain ⟨e1,e2⟩:=ho h;have ex:x=a.Lo:=by omega
  have ey:y=b.Lo:=by omega
  subst ex;subst ey;exact b8 ⟨x5 _,x5 _⟩
 have fwd:∀{o:Option zg} {z:Int},OK o (λr=>inS r z)->OK (o.bind λr=>some (r,true)) (λr=>inS r.1 z):=λh=>d5 h (λx hx=>b8 hx)
 refine b9 (λe=> ?_) (λe1=> ?_)
 ·have e:op=1:=by simpa using e
  subst e;exact fwd (OG ha hb hx hy)
 refine b9 (λe=> ?_) (λe2=> ?_)
 ·have e:op=2:=by simpa using e
  subst e;refine b9 (λ_=>fwd (b8 (kB (jY _)))) (λh=>b8 ?_);have h:=yx h;rw [xW (x:=a.Lo-b.Hi) (by omega) (by omega),xW (x:=a.Hi-b.Lo) (by omega) (by omega),show ar 2 x y=xX (x-y) from rfl,xW (x:=x-y) (by omega) (by omega)];exact ⟨by show a.Lo-b.Hi<=_;omega,by show _<=a.Hi-b.Lo;omega⟩
 refine b9 (λe=> ?_) (λe3=> ?_)
 ·have e:op=3:=by simpa using e
  subst e;exact fwd (FA ha hb hx hy)
 refine b9 (λe=> ?_) (λe4=> ?_)
 ·have e:op=4:=by simpa using e
  subst e;exact fwd (FB ha hb hx hy)
 refine b9 (λe=> ?_) (λe5=> ?_)
 ·have e:op=5:=by simpa using e
  subst e;exact fwd (MO ha hb hx hy)
 refine b9 (λe=> ?_) (λe6=> ?_)
 ·have e:op=6:=by simpa using e
  subst e;refine b8 ⟨(Df x y).1,?_⟩;rw [show ar 6 x y=uB .u64 x y from rfl,Eu ux.1 ux.2 uy.1 uy.2];have h1:x.toNat &&& y.toNat<=x.toNat:=Nat.and_le_left;have h2:x.toNat &&& y.toNat<=y.toNat:=Nat.and_le_right;show _<=ma a.Hi b.Hi;unfold ma;split<;>omega
 have hor:=De (x:=a.Hi) (y:=b.Hi) (by omega) a2 (by omega) b2;have hor2:=Bg a.Hi b.Hi;refine b9 (λe=> ?_) (λe7=> ?_)
 ·have e:op=7:=by simpa using e
  subst e;refine d5 (HU hor2.1 hor2.2) (λr hr=>b8 ?_);obtain ⟨k,_,rfl,hk⟩:=hr;have g:=De ux.1 ux.2 uy.1 uy.2;have hlt:(x.toNat ||| y.toNat)<2^k:=Nat.or_lt_two_pow (by omega) (by omega);rw [show ar 7 x y=bOr .u64 x y from rfl];rw [HZ ux.1 ux.2 uy.1 uy.2] at g |-;refine ⟨?_,?_⟩
  ·show pm a.Lo b.Lo<=_;unfold pm;split<;>omega
  ·show _<=((2^k-1:Nat):Int)
   omega
 refine b9 (λe=> ?_) (λe8=> ?_)
 ·have e:op=8:=by simpa using e
  subst e;refine d5 (HU hor2.1 hor2.2) (λr hr=>b8 ?_);obtain ⟨k,_,rfl,hk⟩:=hr;have hlt:(x.toNat ^^^ y.toNat)<2^k:=Nat.xor_lt_two_pow (by omega) (by omega);rw [show ar 8 x y=Lh .u64 x y from rfl,Kc ux.1 ux.2 uy.1 uy.2];refine ⟨Int.natCast_nonneg _,?_⟩;show _<=((2^k-1:Nat):Int)
  omega
 refine b9 (λe=> ?_) (λe9=> ?_)
 ·have e:op=9:=by simpa using e
  subst e;exact fwd (MP ha hb hx hy)
 simp only [beq_eq_false_iff_ne,ne_eq] at e1 e2 e3 e4 e5 e6 e7 e8 e9;have e:op=10:=by omega
 subst e;rw [eY (show 0<=b.Hi by omega)];simp only [zbs];rw [eY b0];exact b8 ⟨wD a0 x0 y1,wD ux.1 x1 y0⟩
def hl(op x y:Int):Bool:=if op==16 then x==y else if op==17 then x !=y else if op==18 then decide (x<y) else if op==19 then decide (x>=y) else false
theorem Ep(op x y:Int):aP op x y=some (hl op x y,inB op 16 19):=by
 obtain ⟨r,h1,h2⟩:=Eb op x y
 grind [hl,aP]
theorem Da(ha:SW a)(hb:SW b)(hx:inS a x)(hx2:inS b x):OK (dZ [a,b]) (λr=>r.2=true/\inS r.1 x):=by
 refine ⟨_,Hu ha hb,?_⟩;obtain ⟨a0,a1,a2⟩:=ha;obtain ⟨b0,b1,b2⟩:=hb;obtain ⟨x0,x1⟩:=hx;obtain ⟨y0,y1⟩:=hx2;have h1:pm (pm 0 a.Lo) b.Lo<=x:=by grind [pm]
 have h2:x<=ma (ma 18446744073709551615 a.Hi) b.Hi:=by grind [ma]
 rw [d6 (by omega)];exact ⟨rfl,h1,h2⟩
theorem HV{op:Int}(ha:SW a)(hb:SW b)(hx:inS a x)(hy:inS b y)(o1:16<=op)(o2:op<=19):OK (dz op a b (hl op x y)) (λr=>r.2=true/\inS r.1 x):=by
 have ux:=ha.in_ hx;have uy:=hb.in_ hy;obtain ⟨a0,a1,a2⟩:=id ha;obtain ⟨b0,b1,b2⟩:=id hb;obtain ⟨x0,x1⟩:=id hx;obtain ⟨y0,y1⟩:=id hy;have ho:inB op 16 19=true:=by simp [inB];omega
 unfold dz;rw [Ep,ho];simp only [lz ha,lz hb,zbs];refine d5 (R:=λo=>o=false) (b9 (λh=>by cases h) (λ_=>b9 (λh=>by cases h) (λ_=>b8 rfl))) (λo ho=> ?_);subst ho;refine b9 (λh=>by cases h) (λ_=> ?_);unfold xP;simp only [zbs];refine b9 (λ_=>b8 ⟨rfl,hx⟩) (λhs=> ?_);have hs:b.Lo=b.Hi:=by simpa using hs
 have ey:y=b.Lo:=by omega
 have hlv:(op=16/\hl op x y=(x==y))\/(op=17/\hl op x y=(x !=y))\/(op=18/\hl op x y=decide (x<y))\/(op=19/\hl op x y=decide (x>=y)):=by
  have:op=16\/op=17\/op=18\/op=19:=by omega
  rcases this with rfl|rfl|rfl|rfl
  ·exact .inl ⟨rfl,rfl⟩
  ·exact .inr (.inl ⟨rfl,rfl⟩)
  ·exact .inr (.inr (.inl ⟨rfl,rfl⟩))
  ·exact .inr (.inr (.inr ⟨rfl,rfl⟩))
 refine d5 (R:=λo=>o=true↔(op=18/\hl op x y=true)\/(op=19/\hl op x y=false)) ?_ (λo ho=> ?_)
 ·refine b9 (λh=>b8 ?_) (λh=>b9 (λh2=>b8 ?_) (λh2=>b8 ?_))
  ·simp at h;simp [h]
  ·grind
  grind
 refine b9 (λh=>b9 (λhz=> ?_) (λhz=> ?_)) (λh=> ?_)
 ·grind
 ·have hz:b.Lo≠0:=by simpa using hz
  have hlt:x<y:=by
   grind
  refine d5 (Da (x:=x) ha ?_ hx ?_) (λr hr=>b8 hr)
  ·rw [xW (by omega) (by omega)];exact ⟨by simp,by simp;omega,by simp;omega⟩
  ·rw [xW (by omega) (by omega)];exact ⟨ux.1,by grind⟩
 have hn1:¬ ((op=18/\hl op x y=true)\/(op=19/\hl op x y=false)):=λh2=>by grind
 refine d5 (R:=λo=>o=true↔op=18\/op=19) ?_ (λo ho2=> ?_)
 ·refine b9 (λh=>b8 ?_) (λh=>b8 ?_)
  ·grind
  grind
 refine b9 (λh=> ?_) (λh=> ?_)
 ·have hge:x>=y:=by
   grind
  refine d5 (Da (x:=x) ha ⟨b0,by simp;omega,by simp⟩ hx ⟨by grind,by grind⟩) (λr hr=>b8 hr)
 have hne:op=16\/op=17:=by
  grind
 refine d5 (R:=λo=>o=true↔x=y) ?_ (λo ho3=> ?_)
 ·refine b9 (λh=>b8 ?_) (λh=>b9 (λh2=>b8 ?_) (λh2=>b8 ?_))
  ·grind
  ·grind
  grind
 refine b9 (λh=> ?_) (λh=> ?_)
 ·grind [d5,Da,b8]
 have hxy:x≠y:=λe=>by grind
 refine b9 (λh2=> ?_) (λh2=> ?_)
 ·grind
 refine b9 (λh3=>b8 ⟨rfl,?_⟩) (λh3=> ?_)
 ·have h3:a.Lo=b.Lo:=by simpa using h3
  rw [xW (by omega) (by omega)];exact ⟨by grind,x1⟩
 refine b9 (λh4=>b8 ⟨rfl,?_⟩) (λh4=>b8 ⟨rfl,hx⟩);have h4:a.Hi=b.Lo:=by simpa using h4
 rw [xW (by omega) (by omega)];exact ⟨x0,by grind⟩
end
theorem wz(n:Int):sem nX n:=⟨λh=>by simp [nX] at h,λh=>by simp [nX] at h⟩
theorem lF{s:zg}{n:Int}(h:inS s n):sem ⟨1,s,0⟩ n:=⟨λ_=>h,λh=>by simp at h⟩
theorem J6{k:Nat}{a b:zi}{n:Int}(ha:WT k a)(hb:WT k b)(h:sem a n\/sem b n):sem (C2 a b) n:=by
 unfold C2;split
 ·exact wz n
 rename_i hne
 have hk:a.QJ=b.QJ/\a.Rv=b.Rv:=by simpa using hne
 split
 ·rename_i h1
  have h1:a.QJ=1:=by simpa using h1
  refine lF ?_;have hin:inS a.Rh n\/inS b.Rh n:=h.imp (λh=>h.1 h1) (λh=>h.1 (by omega));obtain ⟨a0,a1,a2⟩:=ha.span;obtain ⟨b0,b1,b2⟩:=hb.span;constructor
  ·show ma (ma 18446744073709551615 a.Rh.Lo) b.Rh.Lo<=n;unfold ma;rcases hin with ⟨i1,i2⟩|⟨i1,i2⟩<;>(repeat' split)<;>omega
  ·show n<=pm (pm 0 a.Rh.Hi) b.Rh.Hi;unfold pm;rcases hin with ⟨i1,i2⟩|⟨i1,i2⟩<;>(repeat' split)<;>omega
 ·rename_i h1
  have h1:a.QJ≠1:=by simpa using h1
  rcases h with h|h
  ·exact h
  ·exact ⟨λe=>absurd e h1,λe=>by rw [hk.2];exact h.2 (by omega)⟩
theorem J7{a b:zi}{n:Int}(h:C4 a b)(ha:sem a n):sem b n:=by
 refine ⟨λe=> ?_,λe=> ?_⟩
 ·obtain ⟨h1,h2,h3,h4⟩:=h.1 e;obtain ⟨i1,i2⟩:=ha.1 h1;exact ⟨by omega,by omega⟩
 ·have:=h.2 e;subst this;exact ha.2 e
theorem Db{i:zf}{k:Nat->zi}{regs:Nat->Int}(h:i.B=8\/(0<=i.B/\i.B<8))(hk:∀r,r<8->sem (k r) (regs r)):sem (Lc i k) (if i.B==8 then xX i.RA else regs i.B.toNat):=by
 unfold Lc;split
 ·exact lF ⟨x5 _,x5 _⟩
 grind
end Go.Proofs.YtplmgfkghomelaaGreatDoor
