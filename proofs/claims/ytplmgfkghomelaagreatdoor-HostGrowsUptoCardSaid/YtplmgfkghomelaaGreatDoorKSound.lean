/- Lemmas. -/
import Derived.Test.YtplmgfkghomelaaGreatDoorKJudge
set_option linter.unusedVariables false
set_option linter.unusedSimpArgs false
namespace Go.Proofs.YtplmgfkghomelaaGreatDoor
section
section
section
open Go.Sx
variable {m:zH} {j:zj}
theorem Pi{α:Type}{o:Option α}{x:α}{Q:α->Prop}(h:OK o Q)(e:o=some x):Q x:=by
 obtain ⟨y,h1,h2⟩:=h
 grind
theorem Er{α:Type}{o:Option α}{Q R:α->Prop}(h:OK o Q)(k:OK o R):OK o (λx=>Q x/\R x):=by
 obtain ⟨y,h1,h2⟩:=h;exact ⟨y,h1,h2,Pi k h1⟩
def wA(k:Nat->zi)(regs:Nat->Int):Prop:=∀r,r<8->sem (k r) (regs r)
def sX(regs:Nat->Int):Prop:=∀r,r<8->u64 (regs r)
def gK(x x':Nat->zi):Prop:=∀r n,r<8->u64 n->sem (x r) n->sem (x' r) n
theorem gK.refl(x:Nat->zi):gK x x:=λ_ _ _ _ h=>h
theorem gK.trans{x y z:Nat->zi}(h:gK x y)(k:gK y z):gK x z:=λr n hr hn hs=>k r n hr hn (h r n hr hn hs)
theorem gK.sems{x y:Nat->zi}{regs:Nat->Int}(h:gK x y)(hu:sX regs)(hs:wA x regs):wA y regs:=λr hr=>h r _ hr (hu r hr) (hs r hr)
theorem iW{k:Nat->zi}{regs:Nat->Int}(h:wA k regs){t:Nat}{x:zi}{v:Int}(hv:sem x v):wA (aset k t x) (aset regs t v):=by
 intro r hr;unfold aset;split
 ·exact hv
 ·exact h r hr
theorem MQ(h:JI m j){p:Nat}(hp:p<m.Code.length){k:Nat->zi}(hk:∀r,r<8->WT m.Maps.length (k r)):
  OK (qZ j (p:Int) k) (λj'=>∃x',j'.came[p]? =some x'/\gK k x'/\∀x,j.any[p]? =some true->j.came[p]? =some x->gK x x'):=by
 unfold qZ;obtain ⟨a,ha,ha2⟩:=aG (xs:=j.any) (p:=p) (by rw [h.SG];exact hp)
 obtain ⟨c,hc,hc2⟩:=aG (xs:=j.came) (p:=p) (by rw [h.SK];exact hp)
 simp only [ha2,hc2,zbs,k6];refine b9 (λhf=>b8 ⟨k,?_,gK.refl _,λx hx=> ?_⟩) (λhn=> ?_)
 ·grind
 ·grind
 refine d5 (f9 (λi s=>JI m s/\∃x',s.came[p]? =some x'/\(∀r,i<=r->x' r=c r)/\∀r,r<i->∀n,(sem (k r) n\/sem (c r) n)->sem (x' r) n) ⟨h,c,hc,λ_ _=>rfl,λr hr=>by omega⟩ (λi s again hi hI kk=> ?_) (λs hI=>hI)) (λo ho=>b8 ?_)
 ·unfold dy;obtain ⟨hj,x',hx',h1,h2⟩:=hI;obtain ⟨c',hc',hc2'⟩:=aG (xs:=s.came) (p:=p) (by grind);rw [hx'] at hc';cases hc';have w1:=hj.wt p x' hx' i hi;simp only [hc2',Oy hi,zbs,AQ w1.span (hk i hi).span,k6];refine kk _ ⟨hj.put (lB (hj.wt p x' hx') (w1.join (hk i hi))) _ hj.SG,aset x' i (C2 (x' i) (k i)),?_,λr hr=> ?_,λr hr n hn=> ?_⟩
  ·grind
  ·grind [aset]
  grind [aset,J6]
 ·obtain ⟨_,x',hx',_,h2⟩:=ho;refine ⟨x',hx',λr n hr _ hs=>h2 r hr n (.inl hs),λx _ hx r n hr _ hs=> ?_⟩
  grind
theorem J8(h:JI m j)(hg:As m.Code){p:Nat}(hp:p<m.Code.length):
  OK (xp j (p:Int)) (λj'=>∀x,j.came[p]? =some x->∃x',j'.came[p]? =some x'/\gK x x'):=by
 unfold xp
 have upd:∀{c:Nat->zi} {t:Nat} {v:zi},(∀n,u64 n->sem v n)->gK c (aset c t v):=by
  intro c t v hv r n hr hn hs
  grind [aset]
 refine d5 (f9 (Q:=λj'=>∀x,j.came[p]? =some x->∃x',j'.came[p]? =some x'/\gK x x') (λ_ s=>JI m {j with came:=s}/\∀x,j.came[p]? =some x->∃x',s[p]? =some x'/\gK x x') ⟨⟨h.SU,h.SK,h.SG,h.lps,h.wt⟩,λx hx=>⟨x,hx,gK.refl x⟩⟩ (λi s again hi hI k=> ?_) (λs hI=>hI.2)) (λo ho=>b8 ho);unfold cP;refine f8 (i5 hi (λl hl=>b9 (λ_=>k _ hI) (λhh=> ?_)));rw [h.lps] at hl;obtain ⟨a,ia,ha,hia,hop,rfl⟩:=mS.1 (zmg hl);have hlp:=hg.RW.loop hia hop;have hn:=hg.Tj;have e1:(jD ia a).RU=(((a:Int)-ia.D).toNat:Int):=by show (a:Int)-ia.D=_;omega
 have e2:w64 ((jD ia a).At+1)=((a+1:Nat):Int):=by show w64 ((a:Int)+1)=_;rw [qr (by omega) (by omega)];simp
 rw [e1,e2,h.SU,Ee (by omega) (by omega)];simp only [zbs];refine d5 (f9 (λ_ s=>JI m {j with came:=s}/\∀x,j.came[p]? =some x->∃x',s[p]? =some x'/\gK x x') hI (λi s again hi hI k=> ?_) (λs hI=>hI)) (λo ho=>k _ ho);unfold cO;refine f8 (i5 hi (λx hx=> ?_))
 have hr:OK (cw x) (λr=>r.2=true->0<=r.1/\r.1<8):=by
  grind [jX,AU,pK]
 refine d5 hr (λr hr=>b9 (λ_=>k _ hI) (λhw=> ?_));have hr:=hr (by simpa using hw);obtain ⟨c',hc',hc2'⟩:=aG (xs:=s) (p:=p) (by rw [show s.length=m.Code.length from hI.1.SK];exact hp)
 simp only [hc2',Fo hr.1 hr.2,zbs,gL,iV,k6]
 have go:∀{v:zi},WT m.Maps.length v->(∀n,u64 n->sem v n)->JI m {j with came:=s.set p (aset c' r.1.toNat v)}/\∀x,j.came[p]? =some x->∃x',(s.set p (aset c' r.1.toNat v))[p]? =some x'/\gK x x':=by
  intro v hv hs;refine ⟨hI.1.put (lB (hI.1.wt p c' hc') hv) _ hI.1.SG,λx hx=> ?_⟩;obtain ⟨x',hx',hw⟩:=hI.2 x hx;rw [hc'] at hx';cases hx';refine ⟨_,by rw [y8,d6 rfl,d6 (by grind)],hw.trans (upd hs)⟩
 exact b9 (λ_=>k _ (go (WT.num SW.full) (λn hn=>lF (kB hn)))) (λ_=>k _ (go WT.zero (λn _=>wz n)))
structure lH (j j':zj):Prop where
 grow:∀(q:Nat)(x:Nat->zi),j.any[q]? =some true->j.came[q]? =some x->∃x',j'.came[q]? =some x'/\gK x x'
 keep:∀q:Nat,j.any[q]? =some true->j'.any[q]? =some true
theorem lH.refl(j:zj):lH j j:=⟨λq x _ hx=>⟨x,hx,gK.refl x⟩,λ_ h=>h⟩
theorem lH.trans{a b c:zj}(h:lH a b)(k:lH b c):lH a c:=
 ⟨λq x ha hx=>by
  obtain ⟨x',h1,h2⟩:=h.grow q x ha hx;obtain ⟨x'',h3,h4⟩:=k.grow q x' (h.keep q ha) h1;exact ⟨x'',h3,h2.trans h4⟩,λq ha=>k.keep q (h.keep q ha)⟩
theorem J9(h:JI m j){p:Nat}(hp:p<m.Code.length){k:Nat->zi}(hk:∀r,r<8->WT m.Maps.length (k r)):
  OK (qZ j (p:Int) k) (λj'=>JI m j'/\j'.any=j.any.set p true/\(∀q,q≠p->j'.came[q]? =j.came[q]?)/\lH j j'/\j'.any[p]? =some true/\∃x',j'.came[p]? =some x'/\gK k x'):=by
 refine (Er (Hv h hp hk) (MQ h hp hk)).mono (λj' hj'=> ?_);obtain ⟨⟨h1,h2,h3⟩,x',h4,h5,h6⟩:=hj'
 have hat:j'.any[p]? =some true:=by
  rw [h2,y8,d6 rfl,d6 (by rw [h.SG];exact hp)]
 refine ⟨h1,h2,h3,⟨λq x ha hx=> ?_,λq ha=> ?_⟩,hat,x',h4,h5⟩
 ·grind [gK.refl]
 grind
def Dc(i:zf)(regs:Nat->Int):Int:=if i.B==8 then xX i.RA else regs i.B.toNat
inductive Stp (i:zf) (p:Nat) (regs:Nat->Int):Nat->(Nat->Int)->Prop
 |set:i.Op=0->Stp i p regs (p+1) (aset regs i.D.toNat (Dc i regs))
 |arith:1<=i.Op->i.Op<=10->Stp i p regs (p+1) (aset regs i.D.toNat (ar i.Op (regs i.A.toNat) (Dc i regs)))
 |any (v:Int):i.Op=11\/i.Op=13->u64 v->Stp i p regs (p+1) (aset regs i.D.toNat v)
 |store:i.Op=12->Stp i p regs (p+1) regs
 |map:i.Op=14->Stp i p regs (p+1) (aset regs i.D.toNat i.RA)
 |jump (q:Nat):i.Op=15->(q:Int)=p+(i.D+1)->Stp i p regs q regs
 |yes (q:Nat):16<=i.Op->i.Op<=19->hl i.Op (regs i.A.toNat) (Dc i regs)=true->(q:Int)=p+(i.D+1)->Stp i p regs q regs
 |no:16<=i.Op->i.Op<=19->hl i.Op (regs i.A.toNat) (Dc i regs)=false->Stp i p regs (p+1) regs
 |back (q:Nat):i.Op=20->(q:Int)=p-i.D->Stp i p regs q regs
 |on:i.Op=20->Stp i p regs (p+1) regs
 |call (v:Int):i.Op=21->(∀s,cQ i.RA=some (s,true)->0<=v/\v<=s.most)->Stp i p regs (p+1) (aset regs 0 v)
structure uv (m:zH) (i:zf) (k k':Nat->zi):Prop where
 same:15<=i.Op->i.Op<=20->k'=k
 plain:∀(p:Nat) regs q regs',¬ (15<=i.Op/\i.Op<=20)->sX regs->wA k regs->Stp i p regs q regs'->wA k' regs'
 Rx:16<=i.Op->i.Op<=19->(k i.A.toNat).QJ=1/\(Lc i k).QJ=1
 SS:i.Op=21->i.RA<=4->(k 1).QJ=2
theorem HW(l:List zi):OK (vA l) (λr=>r=0->∀x∈l,x.QJ=1):=by
 unfold vA;refine d5 (f9 (Q:=λo=>match o with|.inl _=>∀x∈l,x.QJ=1|.inr r=>r≠0) (λi _=>∀(q:Nat)(x:zi),q<i->l[q]? =some x->x.QJ=1) (λq x h=>by omega) (λi s again hi hI k=> ?_) (λ_ hI=> ?_)) (λo ho=> ?_)
 ·unfold ku;refine f8 (i5 hi (λx hx=>b9 (λh=>b8 (by simp)) (λh=>k _ (λq y hq hy=> ?_))))
  grind
 ·intro x hx;obtain ⟨q,hq⟩:=List.mem_iff_getElem?.1 hx
  grind
 grind [b8]
theorem HX(k:Fin 7){l:List zi}(ha:xS 2199023255552 ((k:Nat):Int)=some l)(ys:List zi):OK (eO 2199023255552 ((k:Nat):Int) ys) (λr=>r=0->∀(q:Nat)(x y:zi),l[q]? =some x->ys[q]? =some y->x.QJ=y.QJ):=by
 obtain ⟨s,h1,_⟩:=AW k;unfold eO;simp only [h1,ha,zbs];refine b9 (λh=>by cases h) (λ_=>b9 (λ_=>b8 (by simp)) (λhl=> ?_))
 have hl:l.length=ys.length:=by
  grind
 refine d5 (f9 (Q:=λo=>match o with|.inl _=>∀(q:Nat)(x y:zi),l[q]? =some x->ys[q]? =some y->x.QJ=y.QJ|.inr r=>r≠0) (λi _=>∀(q:Nat)(x y:zi),q<i->l[q]? =some x->ys[q]? =some y->x.QJ=y.QJ) (λq x y h=>by omega) (λi s again hi hI kk=> ?_) (λ_ hI=> ?_)) (λo ho=> ?_)
 ·unfold kx;refine f8 (i5 hi (λx hx=>f8 (i5 (by omega) (λy hy=> ?_))));refine b9 (λ_=>b8 (by simp)) (λhk=>d5 (R:=λ_=>True) ?_ (λo _=>b9 (λ_=>b8 (by simp)) (λ_=>kk _ (λq a b hq ha hb=> ?_))))
  ·exact b9 (λ_=>d5 (nY _ _) (λx _=>b8 trivial)) (λ_=>b8 trivial)
  grind
 ·grind
 grind [b8]
theorem FC:∀k:Fin 7,(k:Nat)<=4->∃l x,xS 2199023255552 ((k:Nat):Int)=some l/\l[0]? =some x/\x.QJ=2:=by
 intro k hk;have h:∀k:Fin 7,(k:Nat)<=4->(xS 2199023255552 ((k:Nat):Int)).bind (λl=>(l[0]?).map (·.QJ))=some 2:=by decide+kernel
 obtain ⟨l,h1,h2⟩:=Option.bind_eq_some_iff.1 (h k hk)
 grind
theorem OH(h:JI m j)(hg:As m.Code){p:Nat}(hp:p<m.Code.length):
  OK (vo 2199023255552 j (p:Int)) (λr=>r.2=0->∀i k,m.Code[p]? =some i->j.came[p]? =some k->uv m i k r.1):=by
 have hn:=hg.Tj;obtain ⟨i,hi,hi2⟩:=aG hp;obtain ⟨k,hk1,hk2⟩:=aG (xs:=j.came) (p:=p) (by rw [h.SK];exact hp)
 have hk:=h.wt p k hk1;have hr:=hg.RW.right hi;have hop:=lW hr;have hA:=mX hr
 have fin:∀{r:(Nat->zi)×Int},(r.2=0->uv m i k r.1)->r.2=0->∀i' k',m.Code[p]? =some i'->j.came[p]? =some k'->uv m i' k' r.1:=by
  grind
 unfold vo;rw [h.SU,hi2,hk2];simp only [zbs,AV hr];refine d5 (R:=λt=>(i.Op<=12\/(16<=i.Op/\i.Op<=19))->t=Lc i k) ?_ (λs hs=> ?_)
 ·refine b9 (λhsrc=> ?_) (λhns=>b8 (λh=> ?_))
  ·grind [aZ,Ed,b8]
  grind
 rw [Fo hA.1 hA.2];simp only [zbs,gL,iV];have hD:¬ (15<=i.Op/\i.Op<=20)->ain 8 i.D=some i.D.toNat:=λh=>Fo (mW hr h).1 (mW hr h).2
 have mk:∀{k':Nat->zi},¬ (15<=i.Op/\i.Op<=20)->i.Op≠21->(∀(p:Nat) regs q regs',sX regs->wA k regs->Stp i p regs q regs'->wA k' regs')->uv m i k k':=
  λh1 h2 h3=>⟨λa b=>absurd ⟨a,b⟩ h1,λp regs q regs' _ hu hs hst=>h3 p regs q regs' hu hs hst,λa b=>absurd ⟨by omega,by omega⟩ h1,λa=>absurd a h2⟩
 refine b9 (λe=> ?_) (λe0=> ?_)
 ·have e:i.Op=0:=by simpa using e
  refine b9 (λ_=>b8 (fin (λh=>by simp at h))) (λ_=> ?_);rw [hD (by omega)];refine b8 (fin (λ_=>mk (by omega) (by omega) (λp regs q regs' hu hsm hst=> ?_)));rw [hs (.inl (by omega))];cases hst with
  |set _=>exact iW hsm (Db (aZ hr (.inl (by omega))) hsm)
  |_=>omega
 refine b9 (λe=> ?_) (λe11=> ?_)
 ·have e:i.Op=11:=by simpa using e
  rw [hD (by omega)];simp only [zbs];refine d5 (iy _) (λa _=>d5 (wr _) (λb _=>d5 (rL _) (λc _=>b8 (fin (λ_=>mk (by omega) (by omega) (λp regs q regs' hu hsm hst=> ?_))))));cases hst with
  |any v _ hv=>exact iW hsm (lF (kB hv))
  |_=>omega
 refine b9 (λe=> ?_) (λe12=> ?_)
 ·have e:i.Op=12:=by simpa using e
  refine d5 (iy _) (λa _=>d5 (wr _) (λb _=>d5 (rL _) (λc _=>b8 (fin (λ_=>mk (by omega) (by omega) (λp regs q regs' hu hsm hst=> ?_))))));cases hst with
  |store _=>exact hsm
  |_=>omega
 refine b9 (λe=> ?_) (λe13=> ?_)
 ·have e:i.Op=13:=by simpa using e
  rw [hD (by omega)];refine b8 (fin (λ_=>mk (by omega) (by omega) (λp regs q regs' hu hsm hst=> ?_)));cases hst with
  |any v _ hv=>exact iW hsm (lF (kB hv))
  |_=>omega
 refine b9 (λe=> ?_) (λe14=> ?_)
 ·have e:i.Op=14:=by simpa using e
  rw [hD (by omega)];simp only [zbs];refine b9 (λ_=>b8 (fin (λh=>by simp at h))) (λhlt=>b8 (fin (λ_=>mk (by omega) (by omega) (λp regs q regs' hu hsm hst=> ?_))));cases hst with
  |map _=>exact iW hsm ⟨λe=>by simp at e,λ_=>rfl⟩
  |_=>omega
 refine b9 (λe=> ?_) (λe15=> ?_)
 ·have e:i.Op=15:=by simpa using e
  exact b8 (fin (λ_=>⟨λ_ _=>rfl,λp regs q regs' hne=>absurd ⟨by omega,by omega⟩ hne,λa=>by omega,λa=>by omega⟩))
 refine d5 (R:=λo=>o=inB i.Op 16 19) ?_ (λo ho=> ?_)
 ·refine b9 (λe=>b8 ?_) (λe=>b9 (λe=>b8 ?_) (λe2=>b9 (λe=>b8 ?_) (λe3=>b8 ?_)))
  ·grind [inB]
  ·grind [inB]
  ·grind [inB]
  grind [inB]
 refine b9 (λe=> ?_) (λe16=> ?_)
 ·rw [ho] at e;have e:16<=i.Op/\i.Op<=19:=by simpa [inB] using e
  refine d5 (HW _) (λa ha=>b8 (fin (λh0=>⟨λ_ _=>rfl,λp regs q regs' hne=>absurd ⟨by omega,by omega⟩ hne,λ_ _=> ?_,λa=>by omega⟩)))
  grind
 refine b9 (λe=> ?_) (λe20=> ?_)
 ·have e:i.Op=20:=by simpa using e
  have lv:uv m i k k:=⟨λ_ _=>rfl,λp regs q regs' hne=>absurd ⟨by omega,by omega⟩ hne,λa=>by omega,λa=>by omega⟩
  refine d5 (iy _) (λa _=>b9 (λha=>b8 (fin (λ_=>lv))) (λ_=> ?_));have hlp:=hg.RW.loop hi e;have ew:w64 ((p:Int)-i.D)=(((p:Int)-i.D).toNat:Int):=by grind [qr]
  obtain ⟨hd,hd1,hd2⟩:=aG (xs:=j.came) (p:=((p:Int)-i.D).toNat) (by rw [h.SK];omega);refine d5 (f9 (Q:=λo=>match o with|.inl _=>True|.inr r=>r.2≠0) (λt _=>True) trivial (λt s again ht hI kk=> ?_) (λ_ hI=>trivial)) (λo ho=> ?_)
  ·unfold dY;simp only [Oy ht,ew,hd2,zbs];exact d5 (CX _ _) (λr hr=>b9 (λ_=>b8 (by simp)) (λhn=>kk _ trivial))
  grind [b8,fin]
 refine b9 (λe=> ?_) (λe21=> ?_)
 ·have e:i.Op=21:=by simpa using e
  have him:=lA hr e;obtain ⟨n,hn⟩:=zof him.1;rw [hn];obtain ⟨l,hl,hl3⟩:=C5 ⟨n,by omega⟩;obtain ⟨sg,hs1,hs2,hs3⟩:=AW ⟨n,by omega⟩;have hl':xS 2199023255552 (n:Int)=some l:=hl;have hs1':cQ (n:Int)=some (sg,true):=hs1;simp only [hl',zbs];have ec:w64 (1+(l.length:Int))=((1+l.length:Nat):Int):=by grind [qr]
  have hcut:cut (Gs 8 k) 1 (w64 (1+(l.length:Int)))=some (((Gs 8 k).take (1+l.length)).drop 1):=by
   rw [ec];exact Ee (lo:=1) (by omega) (by grind [np])
  rw [hcut];simp only [zbs];refine d5 (HX ⟨n,by omega⟩ hl _) (λr hrk=> ?_);unfold gE;simp only [hs1',zbs];refine b8 (fin (λh0=>⟨λa b=>by omega,λp regs q regs' _ hu hsm hst=> ?_,λa b=>by omega,λ_ h4=> ?_⟩))
  ·cases hst with
   |call v _ hv=>
    have:=hv sg (by rw [hn];exact hs1')
    exact iW hsm (lF ⟨this.1,this.2⟩)
   |_=>omega
  ·obtain ⟨l2,x,h1,h2,h3⟩:=FC ⟨n,by omega⟩ (by show n<=4;omega);have h1':xS 2199023255552 (n:Int)=some l2:=h1;rw [hl'] at h1';cases h1';have hll:=(zes.1 h2).1
   have hy:(((Gs 8 k).take (1+l.length)).drop 1)[0]? =some (k 1):=by
    rw [List.getElem?_drop,List.getElem?_take,d6 (by omega)];rfl
   grind
 refine b9 (λe=> ?_) (λe22=> ?_)
 ·have e:i.Op=22:=by simpa using e
  refine d5 (iy _) (λa _=>b8 (fin (λ_=>mk (by omega) (by omega) (λp regs q regs' hu hsm hst=> ?_))));cases hst<;>omega
 simp only [beq_eq_false_iff_ne,ne_eq] at e0 e11 e12 e13 e14 e15 e20 e21 e22
 have e16':¬ (16<=i.Op/\i.Op<=19):=by
  grind [inB]
 have o1:1<=i.Op:=by omega
 have o2:i.Op<=10:=by omega
 have hsb:=aZ hr (.inl (by omega));have hse:=hs (.inl (by omega));have hws:WT m.Maps.length s:=by grind [wu]
 obtain ⟨d,hd1,hd2⟩:=OL (op:=i.Op) (hk i.A.toNat (by omega)).span hws.span;rw [hd1];simp only [zbs];rw [hD (by omega)];simp only [zbs];refine d5 (HW _) (λa ha=>b8 (fin (λh0=>mk (by omega) (by omega) (λp regs q regs' hu hsm hst=> ?_))));have hkinds:=ha h0;cases hst with
 |arith _ _=>
  refine iW hsm (lF ?_);have hx:=(hsm i.A.toNat (by omega)).1 (hkinds _ (by simp));have hy:=(Db hsb hsm).1 (by grind);rw [<- hse] at hy;have hdi:=Pi (PO (hk i.A.toNat (by omega)).span hws.span hx hy o1 o2) hd1;exact hdi
 |_=>omega
end
open Go.Sx
variable {regs:Nat->Int} {i:zf} {m:zH} {j:zj}
theorem od(h:sX regs){t:Nat}{v:Int}(hv:u64 v):sX (aset regs t v):=by
 intro r hr;unfold aset;split
 ·exact hv
 ·exact h r hr
theorem wB(h:sX regs)(hb:i.B=8\/(0<=i.B/\i.B<8)):u64 (Dc i regs):=by
 unfold Dc;split
 ·exact jY _
 ·rename_i e
  have:i.B≠8:=by simpa using e
  exact h _ (by omega)
theorem Stp.u64s{p q:Nat}{regs':Nat->Int}(hr:jX i=true)(h:Stp i p regs q regs')(hu:sX regs):sX regs':=by
 have hA:=mX hr;cases h with
 |set e=>exact od hu (wB hu (aZ hr (.inl (by omega))))
 |arith e1 e2=>exact od hu (OE (hu _ (by omega)) (wB hu (aZ hr (.inl (by omega)))))
 |any v e hv=>exact od hu hv
 |store e=>exact hu
 |map e=>
  have:=mY hr e;exact od hu ⟨this.1,by omega⟩
 |jump q e1 e2=>exact hu
 |yes q e1 e2 e3 e4=>exact hu
 |no e1 e2 e3=>exact hu
 |back q e1 e2=>exact hu
 |on e=>exact hu
 |call v e hv=>
  have him:=lA hr e;obtain ⟨n,hn⟩:=zof him.1;obtain ⟨sg,hs1,hs2,hs3⟩:=AW ⟨n,by omega⟩;have:=hv sg (by rw [hn];exact hs1)
  exact od hu ⟨this.1,by omega⟩
theorem uw(hr:jX i=true)(h:¬ (15<=i.Op/\i.Op<=20)):jp i=(0,false,i.Op !=22):=by
 grind [jp,ef,inB,hl,kK]
theorem bW(hr:jX i=true)(h1:15<=i.Op)(h2:i.Op<=19):jp i=(i.D+1,true,i.Op !=15):=by
 grind [jp,ef,inB]
theorem og(hr:jX i=true)(h:i.Op=20):jp i=(-i.D,true,true):=by
 grind [jp,ef,inB,hl,kK]
def At(j:zj)(q:Nat)(regs:Nat->Int):Prop:=j.any[q]? =some true/\∃x,j.came[q]? =some x/\wA x regs
theorem At.grow{j j':zj}{q:Nat}{regs:Nat->Int}(h:At j q regs)(hu:sX regs)(hg:lH j j'):At j' q regs:=by
 obtain ⟨h1,x,h2,h3⟩:=h;obtain ⟨x',h4,h5⟩:=hg.grow q x h1 h2;exact ⟨hg.keep q h1,x',h4,h5.sems hu h3⟩
theorem Dd(h:JI m j){p:Nat}(hp:p<m.Code.length){k:Nat->zi}(hk:∀r,r<8->WT m.Maps.length (k r)):
  OK (qZ j (p:Int) k) (λj'=>JI m j'/\lH j j'/\∀regs,sX regs->wA k regs->At j' p regs):=
 (J9 h hp hk).mono (λj' ⟨h1,_,_,h4,h5,x',h6,h7⟩=>⟨h1,h4,λregs hu hs=>⟨h5,x',h6,h7.sems hu hs⟩⟩)
theorem MR(h:JI m j)(hg:As m.Code){p:Nat}(hp:p<m.Code.length)(hi:m.Code[p]? =some i){k0 k:Nat->zi}(hk:∀r,r<8->WT m.Maps.length (k r))(hk0:∀r,r<8->WT m.Maps.length (k0 r))(hlv:uv m i k0 k):
  OK (xQ j (p:Int) k) (λj'=>lH j j'/\∀regs q regs',sX regs->wA k0 regs->Stp i p regs q regs'->(i.Op=20->q=p+1)->At j' q regs'):=by
 have hn:=hg.Tj;have hr:=hg.RW.right hi
 have hi2:idx m.Code (p:Int)=some i:=by
  obtain ⟨x,hx1,hx2⟩:=aG hp
  grind
 have e1:w64 ((p:Int)+1)=((p+1:Nat):Int):=by grind [qr]
 unfold xQ;rw [h.SU,hi2];simp only [lX,zbs];refine b9 (λhc=>d5 (R:=λj'=>lH j j'/\∀regs q regs',sX regs->wA k0 regs->Stp i p regs q regs'->(i.Op=20->q=p+1)->At j' q regs') (b9 (λhon=> ?_) (λhon=>b8 ?_)) (λo ho=>b8 ho)) (λhc=> ?_)
 ·
  rw [e1];refine d5 (Dd h (hg.RW.on hi hon) hk) (λj' ⟨_,h2,h3⟩=>b8 ⟨h2,λregs q regs' hu hs hst hb=> ?_⟩);have hu':=hst.u64s hr hu;by_cases hop:15<=i.Op/\i.Op<=20
  ·have h20:i.Op=20:=by
    by_cases e:i.Op=20
    ·exact e
    ·exfalso
     rw [bW hr hop.1 (by omega)] at hc;have:=lW hr;have hD:=pL (i:=i) (by grind [ef,inB]);simp at hc;omega
   rw [hb h20];refine h3 regs' hu' ?_;rw [hlv.same hop.1 hop.2];cases hst with
   |on _=>exact hs
   |back q e1 e2=>exact hs
   |_=>omega
  ·have hq:q=p+1:=by cases hst<;>first|rfl|omega
   rw [hq];exact h3 regs' hu' (hlv.plain p regs q regs' hop hu hs hst)
 ·
  refine ⟨lH.refl j,λregs q regs' hu hs hst hb=> ?_⟩
  exfalso
  have hon:(jp i).2.2=false:=by simpa using hon
  by_cases hop:15<=i.Op/\i.Op<=20
  ·by_cases e:i.Op=20
   ·grind [og]
   ·rw [bW hr hop.1 (by omega)] at hc;have hD:=pL (i:=i) (by grind [ef,inB]);simp at hc;omega
  ·rw [uw hr hop] at hon;have:i.Op=22:=by simpa using hon
   cases hst<;>omega
 have hl1:(jp i).2.1=true/\0<=(jp i).1:=by grind
 have hop:15<=i.Op/\i.Op<=19:=by
  rcases Hw hl1.1 with h1|h1
  ·grind
  ·omega
 have hgo:=bW hr hop.1 hop.2;have hlead:=hg.RW.leads hi hl1.1;rw [hgo] at hlead |-;simp only at hlead |-;obtain ⟨q1,hq1⟩:=zof hlead.1;have eq1:w64 ((p:Int)+(i.D+1))=(q1:Int):=by grind [qr]
 have hsame:=hlv.same hop.1 (by omega);subst hsame;refine b9 (λhj=> ?_) (λhj=> ?_)
 ·have h15:i.Op=15:=by simpa using hj
  rw [eq1];refine d5 (Dd h (by omega) hk) (λj' ⟨_,h2,h3⟩=>b8 ⟨h2,λregs q regs' hu hs hst hb=> ?_⟩);cases hst with
  |jump q e1 e2=>
   grind
  |_=>omega
 have h16:16<=i.Op:=by
  grind
 have hon:(jp i).2.2=true:=by grind
 have hs:=aZ hr (.inr ⟨h16,hop.2⟩);have hA:=mX hr;have hnum:=hlv.Rx h16 hop.2;rw [Ed hs];simp only [zbs];have hsw:=wu hs hk
 refine d5 (f9 (λt s=>JI m s/\lH j s/\(0<t->∀regs,sX regs->wA k regs->hl i.Op (regs i.A.toNat) (Dc i regs)=true->At s q1 regs)/\(1<t->∀regs,sX regs->wA k regs->hl i.Op (regs i.A.toNat) (Dc i regs)=false->At s (p+1) regs))
  ⟨h,lH.refl j,λh=>by omega,λh=>by omega⟩ (λt s again ht hI kk=> ?_) (λs hI=>hI)) (λj' hj'=>b8 ⟨hj'.2.1,λregs q regs' hu hs hst hb=> ?_⟩)
 ·unfold dB;refine f8 (i5 (by simpa using ht) (λx hx=> ?_))
  have ht2:t=0/\x=true\/t=1/\x=false:=by
   grind
  refine d5 (R:=λ(o:Int)=>∃q':Nat,o=(q':Int)/\q'<m.Code.length/\(x=true->q'=q1)/\(x=false->q'=p+1)) ?_ (λo ho=> ?_)
  ·refine b9 (λhx=>b8 ⟨p+1,e1,hg.RW.on hi hon,λh=>by simp [h] at hx,λ_=>rfl⟩) (λhx=>b8 ⟨q1,eq1,by omega,λ_=>rfl,λh=>by simp [h] at hx⟩)
  obtain ⟨q',rfl,hq',hqt,hqf⟩:=ho;rw [Fo hA.1 hA.2];simp only [zbs];refine d5 (R:=λr=>SW r.1/\∀regs,sX regs->wA k regs->hl i.Op (regs i.A.toNat) (Dc i regs)=x->r.2=true/\inS r.1 (regs i.A.toNat)) ?_ (λr hr2=> ?_)
  ·obtain ⟨r0,hr0,hr1⟩:=AR (op:=i.Op) (h:=x) (hk i.A.toNat (by omega)).span hsw.span;rw [hr0];refine b8 ⟨hr1,λregs hu hsm hh=> ?_⟩;have hx:=(hsm i.A.toNat (by omega)).1 hnum.1;have hy:=(Db (regs:=regs) hs hsm).1 hnum.2;have:=HV (op:=i.Op) (hk i.A.toNat (by omega)).span hsw.span hx hy h16 hop.2
   grind [xX,Dc,Pi]
  have add:∀{s':zj},JI m s'->lH s s'->((∀regs,sX regs->wA k regs->hl i.Op (regs i.A.toNat) (Dc i regs)=x->At s' q' regs))->OK (again s') (λs=>JI m s/\lH j s/\(0<2->∀regs,sX regs->wA k regs->hl i.Op (regs i.A.toNat) (Dc i regs)=true->At s q1 regs)/\(1<2->∀regs,sX regs->wA k regs->hl i.Op (regs i.A.toNat) (Dc i regs)=false->At s (p+1) regs)):=by
   intro s' hs' hgr hat;refine kk s' ⟨hs',hI.2.1.trans hgr,λ_ regs hu hsm hh=> ?_,λh1 regs hu hsm hh=> ?_⟩
   ·rcases ht2 with ⟨rfl,hxx⟩|⟨rfl,hxx⟩
    ·grind
    ·exact (hI.2.2.1 (by omega) regs hu hsm hh).grow hu hgr
   grind
  refine b9 (λ_=> ?_) (λhf=> ?_)
  ·simp only [iV,zbs];refine d5 (Dd hI.1 hq' (lB hk (WT.num hr2.1))) (λs' ⟨a1,a2,a3⟩=>add a1 a2 (λregs hu hsm hh=>a3 regs hu (λr hr=> ?_)));unfold aset;split
   ·grind [lF]
   ·exact hsm r hr
  grind
 ·cases hst with
  |yes q e1 e2 e3 e4=>
   grind
  |no e1 e2 e3=>exact hj'.2.2.2 (by simp) _ hu hs e3
  |_=>omega
structure Snd (m:zH) (n:Nat) (j:zj):Prop where
 zero:∀regs,sX regs->At j 0 regs
 step:∀(p:Nat)(i:zf)(x:Nat->zi),p<n->m.Code[p]? =some i->j.any[p]? =some true->j.came[p]? =some x->∀regs q regs',sX regs->wA x regs->Stp i p regs q regs'->At j q regs'
 SS:∀(p:Nat)(i:zf)(x:Nat->zi),p<n->m.Code[p]? =some i->j.any[p]? =some true->j.came[p]? =some x->i.Op=21->i.RA<=4->(x 1).QJ=2
theorem Ka{n:Nat}(h:Fq m n j)(h2:Snd m n j)(hg:As m.Code)(hn:n<m.Code.length)(again:zj->Option (zj⊕((Option zj)×Int×Int)))
  {Q:(zj⊕((Option zj)×Int×Int))->Prop} (hk:∀j',Fq m (n+1) j'->Snd m (n+1) j'->OK (again j') Q) (he:∀e,e≠0->Q (.inr (none,(n:Int),e))):OK (bQ 2199023255552 n again j) Q:=by
 unfold bQ;obtain ⟨a,ha,ha2⟩:=aG (xs:=j.any) (p:=n) (by rw [h.ji.SG];exact hn)
 simp only [ha2,zbs];refine b9 (λhf=> ?_) (λhf=> ?_)
 ·have hf:a=false:=by simpa using hf
  have no:∀{p:Nat},p<n+1->j.any[p]? =some true->p<n:=by
   intro p hp hany;by_cases e:p=n
   ·subst e;rw [ha,hf] at hany;cases hany
   ·omega
  exact hk j {h with SL:=λp i hp hi ho hany=>h.SL p i (no hp hany) hi ho hany}
   ⟨h2.zero,λp i x hp hi hany hx=>h2.step p i x (no hp hany) hi hany hx,λp i x hp hi hany hx=>h2.SS p i x (no hp hany) hi hany hx⟩
 have hat:j.any[n]? =some true:=by rw [ha];simpa using hf
 refine d5 (Er (Ef h.ji hg hn) (J8 h.ji hg hn)) (λj1 hj1=> ?_);obtain ⟨⟨hj1,ha1,hc1⟩,hw1⟩:=hj1;refine d5 (Er (Le hj1 hg hn) (OH hj1 hg hn)) (λr hr=> ?_);refine b9 (λe=>b8 (he _ (by simpa using e))) (λe=> ?_);obtain ⟨hr1,hr2⟩:=hr;have hr1:=hr1 (by simpa using e);have hr2:=hr2 (by simpa using e);obtain ⟨i0,hi0,_⟩:=aG hn;obtain ⟨k0,hk0,_⟩:=aG (xs:=j1.came) (p:=n) (by rw [hj1.SK];exact hn)
 have hlv:=hr2 i0 k0 hi0 hk0
 have g1:lH j j1:=⟨λq x hq hx=>by
  by_cases e:q=n
  ·subst e;exact hw1 x hx
  ·exact ⟨x,by rw [hc1 q e];exact hx,gK.refl x⟩,λq hq=>by rw [ha1];exact hq⟩
 refine d5 (Er (Hx hj1 hg hn hr1.1) (MR hj1 hg hn hi0 hr1.1 (hj1.wt n k0 hk0) hlv)) (λj2 hj2=> ?_);obtain ⟨⟨hj2,hw⟩,g2,hst2⟩:=hj2;have hcl:NA m.Code j1:=by intro q a ia;rw [ha1];exact h.Ty q a ia
 have hup:Fq m (n+1) j2:=by
  refine ⟨hj2,hw.keep _ (by rw [ha1];exact h.zero),hcl.ways hg (by rw [ha1];exact hat) hw,λp i hp hi ho hany q hq x hh hx hhd=> ?_⟩
  have hlp:=hg.RW.loop hi ho;rw [(hw.same p (by omega)).1] at hx;rw [(hw.same _ (by omega)).1] at hhd;rw [(hw.same p (by omega)).2,ha1] at hany;by_cases e:p=n
  ·subst e;exact hr1.2 i hi ho q hq x hh hx hhd
  ·rw [hc1 p e] at hx;rw [hc1 _ (by omega)] at hhd;exact h.SL p i (by omega) hi ho hany q hq x hh hx hhd
 refine hk j2 hup ⟨λregs hu=>((h2.zero regs hu).grow hu g1).grow hu g2,λp i x hp hi hany hx regs q regs' hu hs hst=> ?_,λp i x hp hi hany hx ho him=> ?_⟩
 ·have hr:=hg.RW.right hi;by_cases e:p=n
  ·subst e;obtain rfl:i=i0:=by rw [hi] at hi0;exact i8 hi0
   have hx2:=hx;rw [(hw.same p (r7 _)).1,hk0] at hx2;cases hx2;by_cases hb:i.Op=20->q=p+1
   ·exact hst2 regs q regs' hu hs hst hb
   ·
    have ho:i.Op=20:=Classical.byContradiction (λhne=>hb (λe=>absurd e hne));have hlp:=hg.RW.loop hi ho
    have hq:(q:Int)=p-i.D/\regs'=regs:=by
     cases hst with
     |back q e1 e2=>exact ⟨e2,rfl⟩
     |on e1=>exact absurd (λ_=>rfl) hb
     |_=>omega
    obtain ⟨hq,rfl⟩:=hq;have hany2:=hup.Ty p p i hany hi ho (by omega) (r7 _);have hqn:((p:Int)-i.D).toNat=q:=by omega
    rw [hqn] at hany2;obtain ⟨hd,hd1,_⟩:=aG (xs:=j2.came) (p:=q) (by rw [hj2.SK];omega);exact ⟨hany2,hd,hd1,λr hr=>J7 (hup.SL p i (by omega) hi ho hany r hr _ hd hx (by rw [hqn];exact hd1)) (hs r hr)⟩
  ·have hx2:=hx;rw [(hw.same p (by omega)).1,hc1 p e] at hx2;have hany2:=hany;rw [(hw.same p (by omega)).2,ha1] at hany2;have:=h2.step p i x (by omega) hi hany2 hx2 regs q regs' hu hs hst;exact (this.grow (hst.u64s hr hu) g1).grow (hst.u64s hr hu) g2
 ·by_cases e:p=n
  ·subst e;obtain rfl:i=i0:=by rw [hi] at hi0;exact i8 hi0
   rw [(hw.same p (r7 _)).1,hk0] at hx;cases hx;exact hlv.SS ho him
  ·rw [(hw.same p (by omega)).1,hc1 p e] at hx;rw [(hw.same p (by omega)).2,ha1] at hany;exact h2.SS p i x (by omega) hi hany hx ho him
theorem Bf(m:zH):OK (xj 2199023255552 m) (λr=>r.2.2=0->∃j,r.1=some j/\As m.Code/\sN m.Maps/\Fq m m.Code.length j/\Snd m m.Code.length j):=by
 unfold xj;refine d5 (Hz _) (λg hgm=> ?_);refine b9 (λ_=>b8 (λh=>by simp at h)) (λhgt=> ?_);have hgm:=hgm.1 (by simpa using hgt);obtain ⟨r,h1,h2,h3,h4⟩:=sk m.Code;simp only [h1,zbs];refine b9 (λhr=>b8 (λh=>absurd h (by simpa using hr))) (λhr=> ?_);have hg:=(h3 (by simpa using hr)).2;have hn:=hg.Tj;have hn1:=hg.n1;refine d5 (R:=λo=>o=zj.mk m (List.replicate m.Code.length (λ_=>nX)) (List.replicate m.Code.length false) []) ?_ (λo ho=> ?_)
 ·grind [f8,OK.mkl,b8,nX]
 subst ho;simp only [ue hg,zbs]
 have e0:idx (List.replicate m.Code.length false) 0=some false:=by
  grind [IA]
 rw [e0];simp only [zbs];refine d5 (f9 (Q:=λo=>match o with|.inl j=>Fq m m.Code.length j/\Snd m m.Code.length j|.inr r=>r.2.2≠0) (λi s=>Fq m i s/\Snd m i s) ⟨?_,⟨λregs _=> ?_,λp i x hp=>by omega,λp i x hp=>by omega⟩⟩ (λi s again hi hI k=>Ka hI.1 hI.2 hg hi again (λj' a b=>k j' ⟨a,b⟩) (λe he=>he)) (λs hI=>hI)) (λo ho=> ?_)
 ·grind [OB]
 ·obtain ⟨x,hx,_⟩:=aG (xs:=List.replicate m.Code.length (λ_:Nat=>nX)) (p:=0) (by simp;omega);refine ⟨?_,x,by simpa using hx,λr _=> ?_⟩
  ·grind
  grind [nX,wz]
 grind [b8]
end
open Go.Sx
variable {M:EM} {i:zf} {m:zH} {j:zj}
structure Run (m:zH) (j:zj) (M:EM) (p:Nat):Prop where
 SU:M.module=m
 Rj:M.Rj=p
 lt:p<m.Code.length
 known:At j p M.regs
 u:sX M.regs
 fit:Fit m.Code M.LE
 Rc:∀i,u64 (M.RC.RF.Rc i)
 ev:u64 M.Ra.A/\u64 M.Ra.B
structure Au (m:zH) (j:zj):Prop where
 SZ:As m.Code
 goodM:sN m.Maps
 up:Fq m m.Code.length j
 snd:Snd m m.Code.length j
theorem uS(hb:i.B=8\/(0<=i.B/\i.B<8)):gI M i=some (Dc i M.regs):=by
 grind [gI,Dc,Fo]
theorem Mc{W:qL}(h:∀i,u64 (W.Rc i))(t:Int):OK (xG W t) (λr=>u64 r.1):=by
 unfold xG;refine b9 (λ_=>b8 ⟨by simp,by simp⟩) (λhc=> ?_)
 grind [ain,b8]
theorem Jn{W:qL}(h:∀i,u64 (W.Rc i))(t:Int){v:Int}(hv:u64 v):OK (xq W t v) (λr=>∀i,u64 (r.2.Rc i)):=by
 unfold xq;refine b9 (λ_=>b8 h) (λhc=> ?_)
 grind [ain,b8,u64,aset]
theorem Md(C:jj)(t:Int):OK (jT C t) (λr=>u64 r.1):=by
 unfold jT;refine b9 (λ_=>b8 ⟨by simp,by simp⟩) (λhc=> ?_)
 grind [ain,b8,u64,aset,jY]
structure Ran (m:zH) (i:zf) (p:Nat) (M:EM) (r:Int×EM):Prop where
 SU:r.2.module=M.module
 st:r.2.state=M.state
 ev:r.2.Ra=M.Ra
 Rc:∀i,u64 (r.2.RC.RF.Rc i)
 step:∃q:Nat,w64 (M.Rj+r.1)=q/\Stp i p M.regs q r.2.regs/\(i.Op≠20->r.2.LE=M.LE/\p<q)/\
  (i.Op=20->(q=p+1/\r.2.LE=aset M.LE p 0)\/((q:Int)=p-i.D/\M.LE p<i.RA/\r.2.LE=aset M.LE p (M.LE p+1)))
theorem Oc(hS:Au m j){p:Nat}(h:Run m j M p)(hi:m.Code[p]? =some i)(h21:i.Op≠21)(h22:i.Op≠22):OK (AY M i) (Ran m i p M):=by
 have hg:=hS.SZ;have hn:=hg.Tj;have hr:=hg.RW.right hi;have hop:=lW hr;have hA:=mX hr;have hp:=h.lt;have hat:=h.Rj;have one:w64 (M.Rj+1)=((p+1:Nat):Int):=by grind [qr]
 have hA8:ain 8 i.A=some i.A.toNat:=Fo hA.1 hA.2;have hD:¬ (15<=i.Op/\i.Op<=20)->ain 8 i.D=some i.D.toNat:=λh=>Fo (mW hr h).1 (mW hr h).2
 have plain:∀{R:Nat->Int} {S:zl},i.Op≠20->(∀t,u64 (S.RF.Rc t))->Stp i p M.regs (p+1) R->Ran m i p M (1,{M with RC:=S,regs:=R}):=
  λhne hw hs=>⟨rfl,rfl,rfl,hw,p+1,one,hs,λ_=>⟨rfl,by omega⟩,λe=>absurd e hne⟩
 unfold AY;refine b9 (λe=> ?_) (λe0=> ?_)
 ·have e:i.Op=0:=by simpa using e
  rw [uS (aZ hr (.inl (by omega))),hD (by omega)];exact b8 (plain (by omega) h.Rc (.set e))
 refine b9 (λe=> ?_) (λe11=> ?_)
 ·have e:i.Op=11:=by simpa using e
  rw [uS (aZ hr (.inl (by omega)))];simp only [zbs];refine d5 (Mc h.Rc _) (λv hv=> ?_);rw [hD (by omega)];exact b8 (plain (by omega) h.Rc (.any v.1 (.inl e) hv))
 refine b9 (λe=> ?_) (λe12=> ?_)
 ·have e:i.Op=12:=by simpa using e
  rw [hA8,uS (aZ hr (.inl (by omega)))];simp only [zbs];exact d5 (Jn h.Rc _ (h.u _ (by omega))) (λv hv=>b8 (plain (by omega) hv (.store e)))
 refine b9 (λe=> ?_) (λe13=> ?_)
 ·have e:i.Op=13:=by simpa using e
  rw [hD (by omega)];simp only [zbs];refine b9 (λ_=>b8 ?_) (λ_=>b8 (plain (by omega) h.Rc (.any _ (.inr e) h.ev.1)))
  have:aset (aset M.regs i.D.toNat M.Ra.A) i.D.toNat M.Ra.B=aset M.regs i.D.toNat M.Ra.B:=by
   grind [aset]
  rw [this];exact plain (by omega) h.Rc (.any _ (.inr e) h.ev.2)
 refine b9 (λe=> ?_) (λe14=> ?_)
 ·have e:i.Op=14:=by simpa using e
  have him:=mY hr e;rw [hD (by omega),xW (x:=i.RA) him.1 (by omega)];exact b8 (plain (by omega) h.Rc (.map e))
 refine b9 (λe=> ?_) (λe15=> ?_)
 ·have e:i.Op=15:=by simpa using e
  have hl:(jp i).2.1=true:=by grind [bW]
  have hlead:=hg.RW.leads hi hl;rw [bW hr (by omega) (by omega)] at hlead;simp only at hlead;have hJ:=pL (i:=i) (by grind [ef,inB]);obtain ⟨q,hq⟩:=zof hlead.1;refine b8 ⟨rfl,rfl,rfl,h.Rc,q,?_,.jump q e (by omega),λ_=>⟨rfl,by omega⟩,λe2=>by omega⟩
  grind [w64,qr]
 refine b9 (λe=> ?_) (λe20=> ?_)
 ·have e:i.Op=20:=by simpa using e
  have hlp:=hg.RW.loop hi e;have hfit:=h.fit p i hi e;have ha64:ain 64 M.Rj=some p:=by grind [Oy]
  rw [hA8,ha64];simp only [zbs];refine d5 (R:=λo=>o=true->M.LE p<i.RA) (b9 (λ_=>b8 (λh=>yd h)) (λ_=>b8 (λh=>by cases h))) (λo ho=> ?_);refine b9 (λht=>b8 ?_) (λ_=>b8 ?_)
  ·have hlt:=ho ht;refine ⟨rfl,rfl,rfl,h.Rc,((p:Int)-i.D).toNat,?_,.back _ e (by omega),λhne=>absurd e hne,λ_=>.inr ⟨by omega,hlt,?_⟩⟩
   ·grind [w64,qr]
   grind [aset,w64,qr]
  ·exact ⟨rfl,rfl,rfl,h.Rc,p+1,one,.on e,λhne=>absurd e hne,λ_=>.inl ⟨rfl,rfl⟩⟩
 simp only [beq_eq_false_iff_ne,ne_eq] at e0 e11 e12 e13 e14 e15 e20;have hsb:i.B=8\/(0<=i.B/\i.B<8):=aZ hr (by omega);have hus:=wB h.u hsb;have hua:=h.u i.A.toNat (by omega);rw [hA8,uS hsb];simp only [zbs];rw [wy hua hus];simp only [zbs];refine b9 (λho=> ?_) (λho=> ?_)
 ·simp at ho;rw [hD (by omega)];exact b8 (plain (by omega) h.Rc (.arith ho.1 ho.2))
 ·have h16:16<=i.Op/\i.Op<=19:=by
   rw [Bool.and_eq_false_iff] at ho
   grind
  rw [Ep];simp only [zbs];have hl:(jp i).2.1=true:=by grind [bW]
  have hlead:=hg.RW.leads hi hl;rw [bW hr (by omega) (by omega)] at hlead;simp only at hlead;have hJ:=pL (i:=i) (by grind [ef,inB]);obtain ⟨q,hq⟩:=zof hlead.1;refine b9 (λht=>b8 ?_) (λhf=>b8 ?_)
  ·refine ⟨rfl,rfl,rfl,h.Rc,q,?_,.yes q h16.1 h16.2 ht (by omega),λ_=>⟨rfl,by omega⟩,λe2=>by omega⟩
   grind [w64,qr]
  ·exact ⟨rfl,rfl,rfl,h.Rc,p+1,one,.no h16.1 h16.2 hf,λ_=>⟨rfl,by omega⟩,λe2=>by omega⟩
theorem GU{code:List zf}{p q:Nat}{regs regs':Nat->Int}(hr:jX i=true)(hi:code[p]? =some i)(h:Stp i p regs q regs')(h20:i.Op=20->q=p+1):Way code p q:=by
 have on:(jp i).2.2=true->Way code p (p+1):=λh=>⟨i,hi,.inl ⟨h,rfl⟩⟩
 have pl:¬ (15<=i.Op/\i.Op<=20)->i.Op≠22->(jp i).2.2=true:=λh1 h2=>by grind [uw]
 have jm:∀{q:Nat},15<=i.Op->i.Op<=19->(q:Int)=p+(i.D+1)->Way code p q:=λ{q}h1 h2 h3=>by
  have:=pL (i:=i) (by grind [ef,inB]);exact ⟨i,hi,.inr ⟨by grind [bW],by grind [bW],by grind [bW]⟩⟩
 cases h with
 |set e=>exact on (pl (by omega) (by omega))
 |arith e1 e2=>exact on (pl (by omega) (by omega))
 |any v e hv=>exact on (pl (by omega) (by omega))
 |store e=>exact on (pl (by omega) (by omega))
 |map e=>exact on (pl (by omega) (by omega))
 |jump q e1 e2=>exact jm (by omega) (by omega) e2
 |yes q e1 e2 e3 e4=>exact jm (by omega) (by omega) e4
 |no e1 e2 e3=>exact on (by grind [bW])
 |back q e1 e2=>rw [h20 e1];exact on (by rw [og hr e1])
 |on e=>exact on (by rw [og hr e])
 |call v e hv=>exact on (pl (by omega) (by omega))
def Od(m:zH)(j:zj)(M M':EM)(p:Nat):Prop:=∃q,Run m j M' q/\True/\
 ∃i,m.Code[p]? =some i/\((jp i).2.1=true/\(q:Int)=p+(jp i).1\/(jp i).2.2=true/\(q:Int)=p+1)
theorem Way.to{code:List zf}{p q:Nat}(h:Way code p q):∃i,code[p]? =some i/\((jp i).2.1=true/\(q:Int)=p+(jp i).1\/(jp i).2.2=true/\(q:Int)=p+1):=by
 obtain ⟨i,hi,h|h⟩:=h
 ·grind
 grind
theorem D2(hS:Au m j){p:Nat}(h:Run m j M p)(hi:m.Code[p]? =some i){r:Int×EM}(hr:Ran m i p M r){steps state:Int}:
  Od m j M ⟨r.2.Ra,r.2.module,r.2.RC,r.2.regs,r.2.LE,w64 (M.Rj+r.1),steps,state⟩ p:=by
 have hg:=hS.SZ;have hri:=hg.RW.right hi;obtain ⟨q,hq,hst,hne,h20⟩:=hr.step;have hat:=hS.snd.step p i _ h.lt hi h.known.1 h.known.2.choose_spec.1 M.regs q r.2.regs h.u h.known.2.choose_spec.2 hst
 have hql:q<m.Code.length:=by
  have:=(zes.1 hat.1).1;rw [hS.up.ji.SG] at this;exact this
 have base:Fit m.Code r.2.LE->Run m j ⟨r.2.Ra,r.2.module,r.2.RC,r.2.regs,r.2.LE,w64 (M.Rj+r.1),steps,state⟩ q:=
  λhf=>⟨by rw [<- h.SU];exact hr.SU,hq,hql,hat,hst.u64s hri h.u,hf,hr.Rc,by show u64 r.2.Ra.A/\_;rw [hr.ev];exact h.ev⟩
 by_cases e20:i.Op=20
 ·have hlp:=hg.RW.loop hi e20;have hfit:=h.fit p i hi e20;rcases h20 e20 with ⟨rfl,ht⟩|⟨hqd,hlt,ht⟩
  ·refine ⟨p+1,base ?_,?_,(GU hri hi hst (λ_=>rfl)).to⟩
   ·intro a ia ha ho;rw [ht];unfold aset;split
    ·grind
    ·exact h.fit a ia ha ho
   ·trivial
  ·refine ⟨q,base ?_,?_,i,hi,.inl (by grind [og])⟩
   ·intro a ia ha ho;rw [ht];unfold aset;split
    ·grind
    ·exact h.fit a ia ha ho
   ·trivial
 ·obtain ⟨ht,hlt⟩:=hne e20;refine ⟨q,base (by rw [ht];exact h.fit),?_,(GU hri hi hst (λe=>absurd e e20)).to⟩
  trivial
theorem GV:∀k:Fin 7,∃s,cQ ((k:Nat):Int)=some (s,true)/\s.SE=decide ((k:Nat)<=4)/\0<=s.most/\(((k:Nat)=0\/(k:Nat)=4\/(k:Nat)=5)->s.most=18446744073709551615)/\(((k:Nat)=1\/(k:Nat)=2\/(k:Nat)=3)->s.most=1)/\((k:Nat)<=4->0<=s.asks/\s.asks<5):=by
 intro k;have h:∀k:Fin 7,((cQ ((k:Nat):Int)).map (λr=>r.2&&(r.1.SE==decide ((k:Nat)<=4))&&decide (0<=r.1.most)&&(!(decide ((k:Nat)=0)||decide ((k:Nat)=4)||decide ((k:Nat)=5))||r.1.most==18446744073709551615)&&(!(decide ((k:Nat)=1)||decide ((k:Nat)=2)||decide ((k:Nat)=3))||r.1.most==1)&&(!decide ((k:Nat)<=4)||(decide (0<=r.1.asks)&&decide (r.1.asks<5)))))=some true:=by decide+kernel
 obtain ⟨⟨s,b⟩,h1,h2⟩:=yy.1 (h k)
 grind
theorem su(hS:Au m j){p:Nat}(h:Run m j M p)(hi:m.Code[p]? =some i)(ho:i.Op=21){v:Int}(hv:∀s,cQ i.RA=some (s,true)->0<=v/\v<=s.most){S:zl}(hS2:∀t,u64 (S.RF.Rc t)){steps state:Int}:
  Od m j M ⟨M.Ra,M.module,S,aset M.regs 0 v,M.LE,w64 (M.Rj+1),steps,state⟩ p:=by
 have hn:=hS.SZ.Tj;have hlt:=h.lt
 have:=D2 hS h hi (r:=(1,{M with RC:=S,regs:=aset M.regs 0 v})) (steps:=steps) (state:=state)
  ⟨rfl,rfl,rfl,hS2,p+1,by show w64 (M.Rj+1)=_;rw [h.Rj,qr (by omega) (by omega)];simp,.call v ho hv,λ_=>⟨rfl,by omega⟩,λe=>by omega⟩
 exact this
inductive sy (m:zH) (j:zj) (M:EM) (p:Nat) (i:zf) (r:qU×EM):Prop
 |ends:i.Op=22->r.1.QJ=4->r.2.state=2->Run m j r.2 p->sy m j M p i r
 |asks:i.Op=21->i.RA<=4->r.1.QJ=2->r.2.state=1->Run m j r.2 p->r.2.LE=M.LE->(r.1.Item.Rv∈m.Maps/\0<=r.1.Item.Op/\r.1.Item.Op<5)->sy m j M p i r
 |goes:r.1.QJ=1\/r.1.QJ=3->r.2.state=0->Od m j M r.2 p->sy m j M p i r
theorem Jo(hS:Au m j){p:Nat}(h:Run m j M p)(h0:M.state=0)(hi:m.Code[p]? =some i):OK (sO 2199023255552 M) (λr=>sy m j M p i r/\r.1.Pc=p):=by
 have hg:=hS.SZ;have hr:=hg.RW.right hi;have hA:=mX hr
 have hi2:idx M.module.Code M.Rj=some i:=by
  rw [h.SU,h.Rj];obtain ⟨x,hx1,hx2⟩:=aG h.lt
  grind
 have hrun:∀{steps state:Int},Run m j {M with steps:=steps,state:=state} p:=⟨h.SU,h.Rj,h.lt,h.known,h.u,h.fit,h.Rc,h.ev⟩
 unfold sO;refine b9 (λe=>by grind) (λ_=>b9 (λe=>by grind) (λ_=> ?_));rw [hi2];simp only [zbs];refine b9 (λe=> ?_) (λe21=> ?_)
 ·have e:i.Op=21:=by simpa using e
  have him:=lA hr e;obtain ⟨n,hn⟩:=zof him.1;obtain ⟨sg,s1,s2,s3,s4,s5,s6⟩:=GV ⟨n,by omega⟩;have s1':cQ i.RA=some (sg,true):=by rw [hn];exact s1
  have s2':sg.SE=decide (n<=4):=s2;refine d5 (R:=λr=>sy m j M p i r/\r.1.Pc=p) ?_ (λx hx=>b8 hx);unfold wv lh;simp only [s1',zbs];refine b9 (λha=> ?_) (λha=> ?_)
  ·have h4:n<=4:=by rw [s2'] at ha;exact yd ha
   obtain ⟨hany,x,hx,hsm⟩:=h.known;have hk:=hS.snd.SS p i x h.lt hi hany hx e (by omega);have hm:=(hsm 1 (by omega)).2 hk;have hw:=hS.up.ji.wt p x hx 1 (by omega)
   have hb:0<=(x 1).Rv/\(x 1).Rv<m.Maps.length:=by
    rcases hw with hw|hw|hw
    ·grind [nX]
    ·omega
    ·exact hw.2.2
   rw [h.SU];refine f8 (OK.get (by grind) (by grind) (λmp hmp=> ?_));obtain ⟨l,hl,_⟩:=C5 ⟨n,by omega⟩;have hl':xS 2199023255552 i.RA=some l:=by rw [hn];exact hl
   rw [hl'];simp only [zbs];refine d5 (R:=λ_=>True) (b9 (λ_=>b8 trivial) (λ_=>b8 trivial)) (λv _=>b8 ⟨.asks e (by omega) rfl rfl ?_ rfl ⟨zmg hmp,s6 h4⟩,h.Rj⟩);have:=hrun (steps:=w64 (M.steps+1)) (state:=1);rw [h.SU] at this;exact this
  ·have h5:n=5\/n=6:=by rw [s2'] at ha;have:=yx ha;omega
   refine d5 (R:=λo=>(o.2.QJ=1\/o.2.QJ=3)/\o.2.Pc=(p:Int)/\o.1.state=0/\Od m j M ⟨o.1.Ra,o.1.module,o.1.RC,o.1.regs,o.1.LE,w64 (o.1.Rj+1),o.1.steps,o.1.state⟩ p) ?_ (λo ho=>b8 ⟨.goes ho.1 ho.2.2.1 ho.2.2.2,ho.2.1⟩);refine b9 (λe5=> ?_) (λe5=>b8 ⟨.inr rfl,h.Rj,h0,su hS h hi e (λs hs=> ?_) h.Rc⟩)
   ·have e5:n=5:=by
     grind
    refine d5 (Md _ _) (λv hv=>b8 ⟨.inl rfl,h.Rj,h0,su hS h hi e (S:=⟨M.RC.RF,v.2.2⟩) (λs hs=> ?_) h.Rc⟩);rw [s1'] at hs;cases hs;have:=s4 (.inr (.inr e5));exact ⟨hv.1,by have:=hv.2;omega⟩
   grind
 refine b9 (λe=> ?_) (λe22=> ?_)
 ·have e:i.Op=22:=by simpa using e
  rw [Fo hA.1 hA.2];exact b8 ⟨.ends e rfl rfl hrun,h.Rj⟩
 have e21:i.Op≠21:=by simpa using e21
 have e22:i.Op≠22:=by simpa using e22
 refine d5 (Oc hS (hrun (steps:=w64 (M.steps+1)) (state:=M.state)) hi e21 e22) (λr hr=>b8 ⟨.goes (.inl rfl) (by show r.2.state=0;rw [hr.st];exact h0) ?_,h.Rj⟩)
 exact D2 hS hrun hi hr
theorem Jp{h:Int}{r:zk}(hv:u64 r.Rz):OK (gh h r) (λv=>u64 v/\(h=1\/h=2\/h=3->v<=1)):=by
 unfold gh;refine d5 (R:=λo=>o=true↔h=0\/h=4) ?_ (λo ho=> ?_)
 ·refine b9 (λe=>b8 ?_) (λe=>b8 ?_)
  ·grind
  grind
 refine b9 (λe=>b8 ⟨hv,λh3=>by grind⟩) (λ_=> ?_);refine d5 (R:=λ_=>True) (b9 (λ_=>b8 trivial) (λ_=>b8 trivial)) (λo _=> ?_);have z:u64 0/\(h=1\/h=2\/h=3->(0:Int)<=1):=⟨⟨by simp,by simp⟩,λ_=>by simp⟩
 have o1:u64 1/\(h=1\/h=2\/h=3->(1:Int)<=1):=⟨⟨by simp,by simp⟩,λ_=>by simp⟩
 exact b9 (λ_=>b9 (λ_=>b8 o1) (λ_=>b8 z)) (λ_=>b9 (λ_=>b9 (λ_=>b8 o1) (λ_=>b8 z)) (λ_=>b8 z))
theorem GW(hS:Au m j){p:Nat}(h:Run m j M p)(h1:M.state=1)(hi:m.Code[p]? =some i)(ho:i.Op=21)(h4:i.RA<=4){res:zk}(hres:u64 res.Rz):
  OK (lC M res) (λr=>r.1=0/\r.2.state=0/\Od m j M r.2 p):=by
 have hr:=hS.SZ.RW.right hi;have him:=lA hr ho
 have hi2:idx M.module.Code M.Rj=some i:=by
  rw [h.SU,h.Rj];obtain ⟨x,hx1,hx2⟩:=aG h.lt
  grind
 unfold lC;refine b9 (λe=>by grind) (λ_=> ?_);rw [hi2];simp only [zbs];refine d5 (Jp hres) (λv hv=>b8 ⟨rfl,rfl,su hS h hi ho (λs hs=> ?_) h.Rc⟩);obtain ⟨n,hn⟩:=zof him.1;obtain ⟨sg,s1,s2,s3,s4,s5,s6⟩:=GV ⟨n,by omega⟩;have s1':cQ i.RA=some (sg,true):=by rw [hn];exact s1
 rw [s1'] at hs;cases hs;have hv1:=hv.1.1;have hv2:=hv.1.2
 grind
theorem Me{l:List Int}(h:l.length*8<=140737488355328):qX l=some l:=by
 grind [qX,room]
theorem Mf{l:List zf}(h:l.length*40<=140737488355328):zQ l=some l:=by
 grind [zQ,room]
theorem Av(m:zH):∃o p e,xj 2199023255552 m=some (o,p,e)/\((e≠0/\o=none)\/(e=0/\p=0/\∃j,o=some j/\Au m j)):=by
 obtain ⟨⟨o,p,e⟩,h1,h2⟩:=AX m;refine ⟨o,p,e,h1,?_⟩;by_cases he:e=0
 ·subst he;obtain ⟨j,hj,a,b,c,d⟩:=Pi (Bf m) h1 rfl;exact .inr ⟨rfl,(h2.SZ rfl).1,j,hj,⟨a,b,c,d⟩⟩
 ·exact .inl ⟨he,h2.bad he⟩
theorem D3{o:Option zj}{p e:Int}(h:xj 2199023255552 m=some (o,p,e)):vT 2199023255552 m=some (p,e):=by
 unfold vT;rw [h];cases o<;>rfl
def K1(m:zH)(E:qO)(C:jj):EM:=⟨E,m,⟨⟨λ_=>0⟩,C⟩,λ_=>0,λ_=>0,0,0,0⟩
theorem Qc(hS:Au m j){E:qO}(hE:u64 E.A/\u64 E.B)(C:jj):Run m j (K1 m E C) 0:=by
 have hn1:=hS.SZ.n1;refine ⟨rfl,rfl,hn1,hS.snd.zero _ (λr _=>⟨by simp [K1],by simp [K1]⟩),λr _=>⟨by simp [K1],by simp [K1]⟩,λa i ha ho=> ?_,λt=>⟨by simp [K1],by simp [K1]⟩,hE⟩
 ·have:=hS.SZ.RW.loop ha ho
  grind [K1]
end
open Go.Sx
def OM(b:List Int)(r:Int×Int×Int):Prop:=0<=r.1/\0<=r.2.1/\r.2.1<=b.length
theorem fQ{x:Int}(h: -9223372036854775808<=x)(h2:x<9223372036854775808):w64 x=x:=qr h (by omega)
theorem Lg{b:List Int}(hb:b.length<=140737488355328):OK (oP b) (OM b):=by
 unfold oP;refine d5 (f9 (Q:=λo=>match o with|.inl _=>True|.inr r=>OM b r) (λi s=>i<=9/\0<=s) ⟨by omega,by omega⟩ (λi s again hi hI k=> ?_) (λs hI=>trivial)) (λo ho=> ?_)
 ·unfold ud;refine i5 hi (λx hx=> ?_) |> f8
  refine b9 (λ_=>b8 ⟨by simp,by simp,by simp⟩) (λhc=> ?_);have h7:w64 (7*(i:Int))=7*(i:Int):=fQ (by omega) (by omega);rw [h7,eY (by omega)];simp only [zbs];have hr:=Bg s (uC .u64 (xX (uB .u8 x 127)) (7*(i:Int)));refine b9 (λhlt=>b8 ⟨hr.1,?_,?_⟩) (λhge=>k _ ⟨?_,hr.1⟩)
  ·grind [fQ]
  ·grind [fQ]
  grind
 ·cases o with
  |inl _=>exact b8 ⟨by simp,by simp,by simp⟩
  |inr r=>exact b8 ho
theorem H3{b:List Int}(hb:b.length<=140737488355328):OK (iS b) (λr=>0<=r.2.1/\r.2.1<=b.length):=by
 unfold iS;refine d5 (Lg hb) (λr hr=>b8 ⟨hr.2.1,hr.2.2⟩)
structure RI (b:List Int) (r:zu):Prop where
 eb:r.b=b
 lo:0<=r.Rj
 hi:r.Rj<=b.length+1
 ok:r.e=0->r.Rj<=b.length
theorem na{b:List Int}{r:zu}(h:RI b r){e:Int}(he:e≠0):OK (qA r e) (λr'=>RI b r'/\r'.e≠0):=by
 unfold qA;refine b9 (λ_=>b8 ⟨{h with ok:=λe0=>absurd e0 he},he⟩) (λhn=>b8 ⟨h,by simpa using hn⟩)
theorem Kd{b:List Int}(hb:b.length<=140737488355328):OK (aB 2199023255552 ⟨b,0,0,0⟩) (RI b):=by
 unfold aB;refine d5 (OK.rounds (Q:=RI b) (RI b) (λs=>(3-s.Rj).toNat) ?_ 2199023255552 _ ⟨rfl,by simp,by simp;omega,λ_=>by simp⟩ (by simp)) (λ_ h=>b8 h);intro s again h k;unfold fN;refine b9 (λhc=> ?_) (λ_=>b8 h);simp only [zae,zdq,u6] at hc;have h1:=h.lo;have h2:=h.ok hc.2;have hw:w64 (s.Rj+1)=s.Rj+1:=fQ (by omega) (by omega);have hI:RI b {s with field:=s.Rj}:=⟨h.eb,h.lo,h.hi,h.ok⟩
 refine d5 (R:=λo=>o.b=b/\o.Rj=s.Rj/\(o.e=0->s.Rj<b.length)) ?_ (λo ho=> ?_)
 ·refine b9 (λhge=> ?_) (λhlt=> ?_)
  ·unfold qA;refine d5 (R:=λo=>o.b=b/\o.Rj=s.Rj/\o.e≠0) (b9 (λ_=>b8 ⟨h.eb,rfl,show (_:Int)≠0 from (by simp)⟩) (λhn=>b8 ⟨h.eb,rfl,by simpa using hn⟩)) (λo ho=>b8 ⟨ho.1,ho.2.1,λe=>absurd e ho.2.2⟩)
  ·have hlt':s.Rj<b.length:=by
    have e:=h.eb
    grind
   refine f8 (OK.get h1 (by grind) (λx hx=> ?_))
   have hs:∃c,tx (⟨[84,80,1].toArray⟩) s.Rj=some c:=by
    have:s.Rj=0\/s.Rj=1\/s.Rj=2:=by omega
    rcases this with e|e|e<;>rw [e]<;>exact ⟨_,rfl⟩
   obtain ⟨c,hs⟩:=hs;rw [hs];simp only [zbs];refine b9 (λ_=> ?_) (λ_=>b8 ⟨h.eb,rfl,λ_=>hlt'⟩);unfold qA;refine d5 (R:=λo=>o.b=b/\o.Rj=s.Rj/\o.e≠0) (b9 (λ_=>b8 ⟨h.eb,rfl,show (_:Int)≠0 from (by simp)⟩) (λhn=>b8 ⟨h.eb,rfl,by simpa using hn⟩)) (λo ho=>b8 ⟨ho.1,ho.2.1,λe=>absurd e ho.2.2⟩)
 ·obtain ⟨h3,h4,h5⟩:=ho;rw [h4,hw];exact k _ ⟨h3,by simp;omega,by simp;omega,λe=>by grind⟩ (by simp;omega)
theorem gM{b:List Int}(hb:b.length<=140737488355328){r:zu}(h:RI b r){m e:Int}(h0:0<=m)(hm:m<1000)(he:e≠0):
  OK (qT r m e) (λp=>RI b p.2/\0<=p.1/\p.1<=m):=by
 unfold qT;refine b9 (λhc=>b8 ⟨h,by simp,by simpa using h0⟩) (λhc=> ?_);have e0:r.e=0:=by simpa using hc
 have h1:=h.lo;have h2:=h.ok e0;rw [h.eb]
 have hcut:cut b r.Rj (b.length:Int)=some (b.drop r.Rj.toNat):=by
  unfold cut;rw [d6 ⟨h1,by omega,by omega⟩];simp
 rw [hcut];simp only [zbs];refine d5 (Lg (by simp;omega)) (λg hg=> ?_);have hg2:=hg.2.2;have hg1:=hg.2.1;simp only [yz] at hg2;have hw:w64 (r.Rj+g.2.1)=r.Rj+g.2.1:=fQ (by omega) (by omega);rw [hw];have hI:RI b ⟨b,r.Rj+g.2.1,r.Rj,r.e⟩:=⟨rfl,by simp;omega,by simp;omega,λ_=>by simp;omega⟩
 refine b9 (λhbad=> ?_) (λ_=>b9 (λ_=> ?_) (λhle=>b8 ⟨hI,?_,?_⟩))
 ·grind [d5,na,b8]
 ·grind [d5,na,b8]
 ·have:g.1<=m:=by simpa using hle
  rw [fQ (by have:=hg.1;omega) (by omega)];exact hg.1
 ·have:g.1<=m:=by simpa using hle
  rw [fQ (by have:=hg.1;omega) (by omega)];exact this
theorem H4(i:zf):OK (fk [i]) (λ_=>True):=by
 unfold fk;refine d5 (f9 (Q:=λ_=>True) (λ_ _=>True) trivial (λj s again hj _ k=> ?_) (λ_ _=>trivial)) (λo _=> ?_)
 ·unfold kW;refine f8 (i5 hj (λx hx=> ?_));rw [eX];simp only [zbs];exact b9 (λ_=>b8 trivial) (λ_=>k _ trivial)
 grind [b8]
theorem MW{b:List Int}(hb:b.length<=140737488355328){r:zu}(h:RI b r):OK (aW r) (λp=>RI b p.2):=by
 unfold aW;refine d5 (gM hb h (by decide) (by decide) (by decide)) (λa ha=> ?_);refine d5 (gM hb ha.1 (by decide) (by decide) (by decide)) (λc hc=> ?_);refine d5 (gM hb hc.1 (by decide) (by decide) (by decide)) (λd hd=> ?_);refine d5 (gM hb hd.1 (by decide) (by decide) (by decide)) (λf hf=> ?_);have hF:=hf.1;refine b9 (λ_=>b8 hF) (λhc0=> ?_);have e0:f.2.e=0:=by simpa using hc0
 have h1:=hF.lo;have h2:=hF.ok e0;rw [hF.eb]
 have hcut:cut b f.2.Rj (b.length:Int)=some (b.drop f.2.Rj.toNat):=by
  unfold cut;rw [d6 ⟨h1,by omega,by omega⟩];simp
 rw [hcut];simp only [zbs];refine d5 (H3 (by simp;omega)) (λg hg=> ?_);have hg2:=hg.2;have hg1:=hg.1;simp only [yz] at hg2;have hw:w64 (f.2.Rj+g.2.1)=f.2.Rj+g.2.1:=fQ (by omega) (by omega);rw [hw];have hI:∀q,RI b ⟨b,f.2.Rj+g.2.1,q,f.2.e⟩:=λq=>⟨rfl,by simp;omega,by simp;omega,λ_=>by simp;omega⟩
 refine b9 (λhbad=> ?_) (λ_=>d5 (H4 _) (λt _=>b9 (λ_=> ?_) (λ_=>b8 (hI _))))
 ·grind [d5,na,b8]
 grind [d5,na,b8]
theorem H5{b:List Int}(hb:b.length<=140737488355328):OK (dC 2199023255552 b) (λr=>r.2.2=0->sN r.1.Maps/\r.1.Code.length<=64):=by
 unfold dC;refine d5 (Kd hb) (λr0 h0=> ?_);refine d5 (gM hb h0 (by decide) (by decide) (by decide)) (λn hn=> ?_)
 refine d5 (OK.rounds (Q:=λo=>RI b o.1/\(∀x∈o.2,0<=x/\x<4)/\o.2.Nodup/\(o.2.length:Int)<=4)
  (λs=>RI b s.1/\(∀x∈s.2.1,0<=x/\x<4)/\s.2.1.Nodup/\s.2.2=s.2.1.length/\s.2.2<=n.1) (λs=>(n.1-s.2.2).toNat) ?_ 2199023255552 _ ?_ ?_) (λo ho=> ?_)
 ·intro s again h k;obtain ⟨h1,h2,h3,h4,h5⟩:=h;unfold mA;refine b9 (λhc=> ?_) (λ_=>b8 ⟨h1,h2,h3,by simp;omega⟩);have hlt:s.2.2<n.1:=by simpa using hc
  refine d5 (gM hb h1 (by decide) (by decide) (by decide)) (λq hq=> ?_);rw [sM];simp only [zbs];refine d5 (R:=λo=>RI b o/\(o.e=0->q.1∉s.2.1)) (b9 (λhct=>d5 (na hq.1 (by decide)) (λz hz=>b8 ⟨hz.1,λe=>absurd e hz.2⟩)) (λhct=>b8 ⟨hq.1,λ_=>by simpa using hct⟩)) (λo ho=> ?_);refine b9 (λ_=>b8 ⟨ho.1,h2,h3,by simp;omega⟩) (λhe=> ?_)
  grind [f8,OK.hasRoom,w64,fQ]
 ·grind
 ·grind
 refine d5 (gM hb ho.1 (by decide) (by decide) (by decide)) (λc hc=> ?_);refine d5 (R:=RI b) (b9 (λ_=>d5 (na hc.1 (by decide)) (λz hz=>b8 hz.1)) (λ_=>b8 hc.1)) (λr2 h2=> ?_);refine d5 (OK.rounds (Q:=λo=>RI b o.1/\(o.2.length:Int)<=64) (λs=>RI b s.1/\s.2.2=s.2.1.length/\s.2.2<=c.1) (λs=>(c.1-s.2.2).toNat) ?_ 2199023255552 _ ?_ ?_) (λo2 ho2=> ?_)
 ·intro s again h k;obtain ⟨h1,h3,h4⟩:=h;have hc2:=hc.2.2;unfold mB;refine b9 (λhcc=> ?_) (λ_=>b8 ⟨h1,by simp;omega⟩);simp only [zae,zdq,u6] at hcc;refine d5 (MW hb h1) (λq hq=> ?_)
  grind [f8,OK.hasRoom,w64,fQ]
 ·grind
 ·grind
 refine d5 (R:=λ_=>True) (b9 (λhcc=>d5 (na (b:=b) (r:=⟨o2.1.b,o2.1.Rj,o2.1.Rj,o2.1.e⟩) ⟨ho2.1.eb,ho2.1.lo,ho2.1.hi,ho2.1.ok⟩ (e:=13) (by decide)) (λz hz=>b8 trivial)) (λ_=>b8 trivial)) (λr3 _=> ?_);refine b9 (λhe=>b8 (λh=> ?_)) (λ_=>b8 (λ_=>⟨⟨ho.2.1,ho.2.2.1,by grind⟩,by grind⟩))
 grind
end Go.Proofs.YtplmgfkghomelaaGreatDoor
