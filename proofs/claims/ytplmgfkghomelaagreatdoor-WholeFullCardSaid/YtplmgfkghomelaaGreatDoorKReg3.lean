/- Lemmas. -/
import Derived.Test.YtplmgfkghomelaaGreatDoorKEng
set_option linter.unusedVariables false
set_option linter.unusedSimpArgs false
namespace Go.Proofs.YtplmgfkghomelaaGreatDoor
section
section
section
open Go.Sx
variable {H M W n:Nat} {r:zb}
theorem tv(h:fk H M W n r)(k:Int):OK (xJ r.Sr [k]) (λq=>(q.1≠0/\q.2=r.Sr)\/(q.1=0/\∃l,(l.length=r.Sr.Sh.length/\∀(i:Nat) u,l[i]? =some u->u.SA=0\/r.Sr.Sh[i]? =some u)/\q.2=⟨r.Sr.SH,l⟩)):=by
 unfold xJ;refine d6 (i4 (Q:=λo=>match o with|.inl _=>0<=k/\k<r.Sr.Sh.length|.inr q=>q=(2,r.Sr)) (λi _=>i=0\/0<=k/\k<r.Sr.Sh.length) (.inl rfl) (λi s again hi hI kk=> ?_) (λs hI=> ?_)) (λo ho=> ?_)
 ·have e:i=0:=by simp at hi;omega
  subst e;unfold fA jh;simp only [idx,z8,k8,zbs,Int.natCast_zero,r6,q9,Int.toNat_zero];refine d6 (R:=λo=>o=false->0<=k/\k<r.Sr.Sh.length) (d5 (λ_=>b9 (λe=>by cases e)) (λhc=> ?_)) (λo ho=>d5 (λ_=>b9 rfl) (λhf=>kk _ (.inr (ho hf))))
  grind [cut,hY,b9]
 ·grind
 ·cases o with
  |inr q=>exact b9 (.inl ⟨by rw [ho];simp,by rw [ho]⟩)
  |inl u=>
   obtain ⟨x,hx,hx2⟩:=nY (l:=r.Sr.Sh) ho.1 ho.2;refine d6 (i4 (Q:=λo=>match o with|.inl _=>True|.inr q=>q=(41,r.Sr)) (λi _=>True) trivial (λi s again hi hI kk=> ?_) (λs hI=>trivial)) (λo ho2=> ?_)
   ·have e:i=0:=by simp at hi;omega
    subst e;unfold fB jj;simp only [idx,z8,zbs,Int.natCast_zero,r6,q9,Int.toNat_zero];rw [show (if 0<=k then r.Sr.Sh[k.toNat]? else none)=some x from by grind];simp only [zbs];exact d5 (λ_=>b9 rfl) (λ_=>kk _ trivial)
   ·cases o with
    |inr q=>exact b9 (.inl ⟨by rw [ho2];simp,by rw [ho2]⟩)
    |inl u=>
     refine d6 (i4 (Q:=λt=>∃l,(l.length=r.Sr.Sh.length/\∀(i:Nat) u,l[i]? =some u->u.SA=0\/r.Sr.Sh[i]? =some u)/\t=⟨r.Sr.SH,l⟩) (λi t=>∃l,(l.length=r.Sr.Sh.length/\∀(i:Nat) u,l[i]? =some u->u.SA=0\/r.Sr.Sh[i]? =some u)/\t=⟨r.Sr.SH,l⟩) ⟨_,⟨rfl,λ_ _ hu=>.inr hu⟩,rfl⟩ (λi s again hi hI kk=> ?_) (λs hI=>hI)) (λt ht=>b9 (.inr ⟨rfl,ht⟩));have e:i=0:=by simp at hi;omega
     subst e;obtain ⟨l,hl,rfl⟩:=hI;unfold fC;obtain ⟨y,hy,_⟩:=nY (l:=l) ho.1 (by rw [hl.1];exact ho.2)
     rw [show idx [k] ((0:Nat):Int)=some k from rfl];simp only [zbs,hy];refine kk _ ⟨_,⟨by rw [j7];exact hl.1,λi u hu=> ?_⟩,rfl⟩
     rw [yy] at hu
     grind
theorem Gd(h:fk H M W n r)(hb:n+1<=1000000000){q:Int×zy}(hq:(q.1≠0/\q.2=r.Sr)\/(q.1=0/\∃l,(l.length=r.Sr.Sh.length/\∀(i:Nat) u,l[i]? =some u->u.SA=0\/r.Sr.Sh[i]? =some u)/\q.2=⟨r.Sr.SH,l⟩)):fk H M W (n+1) (Gb r q.2):=by
 have h0:=h.TZ;have h1:=h.last;rcases hq with ⟨_,e⟩|⟨_,l,hl,e⟩
 ·rw [e];exact h.mono (by omega) hb
 ·rw [e];exact BP h hb (by rw [hl.1];exact h.hl) h0 (by simp;omega)
def Ge(r:zb)(c:zD):zb:={r with Sq:=c}
theorem BR(h:fk H M W n r)(hb:n+1<=1000000000){c:zD}(h1:c.in_.length=W)(h2:r.Sq.TC<=c.TC)(h3:c.TC<=r.Sq.TC+1)(h4:∀e∈c.in_,0<=e/\e<=c.TC):fk H M W (n+1) (Ge r c):=
 {h.mono (n':=n+1) (by omega) hb with wk:=h1,Ua:=by have:=h.Ua;simp [Ge];omega,TC:=by have:=h.TC;simp [Ge];omega,Uw:=h4,prog:=λp x hx=>by have:=h.prog p x hx;exact ⟨this.1,this.2.1,this.2.2.1,this.2.2.2.1,this.2.2.2.2.1,this.2.2.2.2.2.1,by simp [Ge];omega⟩}
theorem Fb(h:fk H M W n r)(k:Int):OK (vh r.Sq k) (λq=>(q.2.1≠0/\q.1=0/\q.2.2=r.Sq)\/(q.2.1=0/\q.1≠0/\0<=k/\k<W/\r.Sq.in_[k.toNat]? =some 0/\q.2.2=⟨r.Sq.TC,r.Sq.in_.set k.toNat r.Sq.TC⟩)):=by
 unfold vh vg;simp only [zbs];refine d5 (λ_=>b9 (.inl ⟨by simp,rfl,rfl⟩)) (λhc=> ?_);simp only [Bool.not_eq_false',zae,zdq] at hc;obtain ⟨x,hx,hx2⟩:=nY (l:=r.Sq.in_) hc.1 hc.2;rw [hx];simp only [zbs];refine d5 (λ_=>b9 (.inl ⟨by simp,rfl,rfl⟩)) (λh0=>b9 (.inr ⟨rfl,?_,hc.1,by rw [<- h.wk];exact hc.2,?_,rfl⟩))
 ·have:=h.Ua;simp;omega
 grind
theorem IC(h:fk H M W n r)(hb:n+1<=1000000000)(k:Int):fk H M W (n+1) (Ge r ⟨r.Sq.TC,r.Sq.in_.set k.toNat r.Sq.TC⟩):=by
 refine BR h hb (by simp [h.wk]) (r6 _) (by simp;omega) (λe he=> ?_);have h1:=h.Ua;rcases p9 he with h2|h2
 ·exact h.Uw e h2
 grind
theorem Fc(h:fk H M W n r)(k:Int):OK (vi r.Sq [k]) (λq=>(q.1≠0/\q.2=r.Sq/\(0<=k->k<W->r.Sq.in_[k.toNat]? =some 0))\/(q.1=0/\0<=k/\k<W/\q.2=⟨r.Sq.TC,r.Sq.in_.set k.toNat 0⟩)):=by
 have hs:=h.TY;unfold vi;refine d6 (i4 (Q:=λo=>match o with|.inl _=>0<=k/\k<W|.inr q=>q=(2,r.Sq)/\¬ (0<=k/\k<W)) (λi f=>(i=0/\f=λ_=>false)\/(i=1/\0<=k/\k<W)) (.inl ⟨rfl,rfl⟩) (λi s again hi hI kk=> ?_) (λs hI=> ?_)) (λo ho=> ?_)
 ·have e:i=0:=by simp at hi;omega
  subst e;unfold fR vg;rw [show idx [k] ((0:Nat):Int)=some k from rfl];simp only [zbs];by_cases hk:0<=k/\k<W
  ·have ha:ain 4 k=some k.toNat:=by unfold ain;rw [d7 ⟨hk.1,by omega⟩]
   have e1:(!(decide (k>=0)&&decide (k<(r.Sq.in_.length:Int))))=false:=by rw [h.wk];simp;omega
   grind
  ·have e1:(!(decide (k>=0)&&decide (k<(r.Sq.in_.length:Int))))=true:=by rw [h.wk];simp;omega
   grind [b9]
 ·grind
 ·cases o with
  |inr q=>exact b9 (.inl ⟨by rw [ho.1];simp,by rw [ho.1],λh1 h2=>absurd ⟨h1,h2⟩ ho.2⟩)
  |inl u=>
   obtain ⟨x,hx,hx2⟩:=nY (l:=r.Sq.in_) ho.1 (by rw [h.wk];exact ho.2)
   refine d6 (i4 (Q:=λo=>match o with|.inl _=>True|.inr q=>q=(41,r.Sq)/\x=0) (λi _=>True) trivial (λi s again hi hI kk=> ?_) (λs hI=>trivial)) (λo ho2=> ?_)
   ·have e:i=0:=by simp at hi;omega
    subst e;unfold fS;rw [show idx [k] ((0:Nat):Int)=some k from rfl];simp only [zbs,hx];exact d5 (λhc=>b9 ⟨rfl,by simpa using hc⟩) (λ_=>kk _ trivial)
   ·cases o with
    |inr q=>exact b9 (.inl ⟨by rw [ho2.1];simp,by rw [ho2.1],λ_ _=>by rw [hx2,ho2.2]⟩)
    |inl u=>
     refine d6 (i4 (Q:=λt=>t=⟨r.Sq.TC,r.Sq.in_.set k.toNat 0⟩) (λi t=>(i=0/\t=r.Sq)\/(i=1/\t=⟨r.Sq.TC,r.Sq.in_.set k.toNat 0⟩)) (.inl ⟨rfl,rfl⟩) (λi s again hi hI kk=> ?_) (λs hI=> ?_)) (λt ht=>b9 (.inr ⟨rfl,ho.1,ho.2,ht⟩))
     ·grind [fT,idx]
     grind
theorem ID(h:fk H M W n r)(hb:n+1<=1000000000)(k:Int):fk H M W (n+1) (Ge r ⟨r.Sq.TC,r.Sq.in_.set k.toNat 0⟩):=by
 refine BR h hb (by simp [h.wk]) (r6 _) (by simp;omega) (λe he=> ?_);have h1:=h.Ua;rcases p9 he with h2|h2
 ·exact h.Uw e h2
 grind
theorem Gf(h:fk H M W n r):vu r.Sq=some (r.Sq.TC+1,⟨r.Sq.TC+1,r.Sq.in_⟩):=by
 have h1:=h.Ua;have h2:=h.TC;have h3:=h.Tg
 grind [vu,fX]
theorem IE(c:zD)(e:Int)(hl:c.in_.length<=140737488355328):vD c e=some (decide (∀x∈c.in_,x=0\/e<=x)):=by
 unfold vD;have hroom:room c.in_.length 1=some ():=by grind [room]
 rw [hroom];simp only [zbs];refine OK.is (d6 (i4 (Q:=λo=>match o with|.inl _=>∀x∈c.in_,x=0\/e<=x|.inr q=>q=false/\¬ ∀x∈c.in_,x=0\/e<=x) (λi _=>∀x∈c.in_.take i,x=0\/e<=x) (by simp) (λi s again hi hI k=> ?_) (λs hI=>by grind)) (λo ho=> ?_))
 ·unfold gI;refine f9 (i7 hi (λx hx=>d5 (λhc=>b9 ⟨rfl,λhall=> ?_⟩) (λhc=>k _ ?_)))
  ·have:=hall x (zmg hx);simp at hc;omega
  ·intro y hy;rw [x7,hx] at hy
   grind
 grind [b9]
end
open Go.Sx
variable {H M W n:Nat} {r:zb}
theorem KY(h:fk H M W n r)(p:Int):OK (aG r.Sr [p]) (λl=>l.length<=4/\(l=[]->∀(i:Nat) u,r.Sr.Sh[i]? =some u->0<u.SA->u.prog≠p)):=by
 have hs:=h.TY;have hl:=h.hl;unfold aG;refine d6 (i4 (Q:=λl=>l.length<=4/\(l=[]->∀(i:Nat) u,r.Sr.Sh[i]? =some u->0<u.SA->u.prog≠p)) (λi l=>l.length<=i/\(l=[]->∀(j:Nat) u,j<i->r.Sr.Sh[j]? =some u->0<u.SA->u.prog≠p)) ⟨by simp,λ_ j u hj=>by omega⟩ (λi s again hi hI k=> ?_) (λs hI=>⟨by omega,λe j u hu=>hI.2 e j u (zes.1 hu).1 hu⟩)) (λl h=>b9 h);unfold fV;refine f9 (i7 hi (λx hx=> ?_));simp only [hY,zbs];refine d6 (R:=λo=>o=false->0<x.SA->x.prog≠p) (d5 (λ_=>b9 (by simp;exact λz _=>z)) (λ_=>b9 (by grind))) (λo ho=>d5 (λ_=> ?_) (λe=>k _ ⟨by omega,λe2 j u hj hu=> ?_⟩))
 ·refine f9 (OK.hasRoom (by simp;omega) (k _ ⟨by simp;omega,λe=>by simp at e⟩))
 ·by_cases e3:j=i
  ·subst e3;rw [hx] at hu;cases hu;exact ho e
  ·exact hI.2 e2 j u (by omega) hu
def retired(r:zb)(p:Int)(x:zT):zb:=
 {r with Sq:=⟨r.Sq.TC+1,r.Sq.in_⟩,Su:=ud r.Su p ⟨x.module,r.Sq.TC+1⟩,waiting:=r.waiting++[p]}
theorem mr(h:fk H M W n r)(p:Int):OK (qT r p) (λq=>(q.2.1≠0/\q.1=0/\q.2.2=r)\/(q.2.1=0/\q.1=r.Sq.TC+1/\∃x,jB r.Su p=some x/\x.SR=0/\(∀(i:Nat) u,r.Sr.Sh[i]? =some u->0<u.SA->u.prog≠p)/\q.2.2=retired r p x)):=by
 unfold qT;cases hg:jB r.Su p with
 |none=>exact m9 rfl (b9 (.inl ⟨by simp,rfl,rfl⟩))
 |some x=>
  refine j8 rfl ?_;simp only [zbs];refine d5 (λ_=>b9 (.inl ⟨by simp,rfl,rfl⟩)) (λh0=> ?_);refine d6 (KY h p) (λl hwl=>d5 (λ_=>b9 (.inl ⟨by simp,rfl,rfl⟩)) (λhl0=> ?_));rw [Gf h];simp only [zbs];have hw:=h.wlen;have hl:=h.len;refine f9 (OK.hasRoom (by simp;omega) (b9 (.inr ⟨rfl,rfl,x,rfl,?_,hwl.2 (by cases l<;>simp at hl0 |-),rfl⟩)));have:=(h.prog p x hg).2.2.2.2.2.1;simp at h0;omega
theorem DR(h:fk H M W n r)(hb:n+1<=1000000000){p:Int}{x:zT}(hx:jB r.Su p=some x)(h0:x.SR=0):fk H M W (n+1) (retired r p x):=by
 have hn:=h.TC;have hn1:=h.Ua
 have hget:∀q,jB (retired r p x).Su q=if p=q then some ⟨x.module,r.Sq.TC+1⟩ else jB r.Su q:=by
  grind [retired,BO]
 refine {h.mono (n':=n+1) (by omega) hb with Ua:=by grind [retired],TC:=by grind [retired],Uw:=λe he=> ?_,Tk:= ?_,len:= ?_,prog:= ?_,held:= ?_,UF:= ?_,Uf:= ?_}
 ·have:=h.Uw e he
  grind [retired]
 ·unfold E7;rw [show (retired r p x).Su.map (·.1)=r.Su.map (·.1) from E8 _ _ _];exact h.Tk
 ·rw [show (retired r p x).Su.length=r.Su.length from KT _ _ _];exact h.len
 ·intro q y hy;rw [hget] at hy;split at hy
  ·rename_i e
   subst e;cases hy;have:=h.prog p x hx
   grind [retired]
  ·have:=h.prog q y hy
   grind [retired]
 ·show r.Tl.held=_;rw [h.held];exact (IA (λ(z:zT)=>z.module.Maps) r.Su p ⟨x.module,r.Sq.TC+1⟩ x hx rfl).symm
 ·refine k7.2 ⟨h.UF,by simp,λa ha b hb e=> ?_⟩;simp at hb;subst hb;subst e;obtain ⟨y,hy,hy0⟩:=(h.Uf a).1 ha
  grind
 ·intro q;rw [hget];show q∈r.waiting++[p]↔_;simp only [i5,i6];by_cases e:p=q
  ·subst e;simp;omega
  ·have e2:¬ q=p:=λe2=>e e2.symm
   simp only [e2,or_false,d8 e];exact h.Uf q
def tw(r:zb)(p:Int):Bool:=match jB r.Su p with
 |some x=>decide (∀e∈r.Sq.in_,e=0\/x.SR<=e)
 |none=>false
def lC(P:Int->Bool)(k:Int):List Int->List Int
 |[]=>[]
 |x::l=>if 0<k/\P x=true then x::lC P (k-1) l else lC P k l
theorem tx(P:Int->Bool):∀(l:List Int)(k:Int),(lC P k l).Sublist l
 |[],_=>List.Sublist.refl _
 |x::l,k=>by
  unfold lC;split
  ·exact (tx P l _).cons_cons x
  ·exact (tx P l _).cons x
theorem DS(P:Int->Bool):∀(l:List Int)(k:Int),∀x∈lC P k l,P x=true
 |[],_=>λx hx=>by cases hx
 |y::l,k=>λx hx=>by
  unfold lC at hx;split at hx
  ·rename_i hc
   rcases j5.1 hx with rfl|hx
   ·exact hc.2
   ·exact DS P l _ x hx
  ·exact DS P l _ x hx
theorem pI(P:Int->Bool)(x:Int):∀(l:List Int)(k:Int),lC P k (l++[x])=lC P k l++(if ((lC P k l).length:Int)<k/\P x=true then [x] else [])
 |[],k=>by
  grind [lC]
 |y::l,k=>by
  simp only [y7,lC];split
  ·rename_i hc
   rw [pI P x l (k-1)]
   grind
  ·exact pI P x l k
def iA(r:zb)(most:Int):List Int:=lC (tw r) most r.waiting
theorem IF(h:fk H M W n r)(most:Int):OK (jN (vr r most) (λ(s:List Int)=>s) r.waiting.length 0 []) (λl=>l=iA r most):=by
 have hw:=h.wlen;have hl:=h.len;refine i4 (λi s=>s=lC (tw r) most (r.waiting.take i)/\s.length<=i) ⟨by simp [lC],by simp⟩ (λi s again hi hI k=> ?_) (λs hI=> ?_)
 ·obtain ⟨rfl,hsl⟩:=hI;unfold vr;refine f9 (i7 hi (λx hx=> ?_));obtain ⟨y,hy,_⟩:=(h.Uf x).1 (zmg hx);have hs:tw r x=decide (∀e∈r.Sq.in_,e=0\/y.SR<=e):=by grind [tw]
  have e1:lC (tw r) most (r.waiting.take (i+1))=lC (tw r) most (r.waiting.take i)++(if ((lC (tw r) most (r.waiting.take i)).length:Int)<most/\tw r x=true then [x] else []):=by
   rw [ep hx,pI]
  simp only [hy,zbs,IE _ _ (show r.Sq.in_.length<=140737488355328 by have h1:=h.wk;have h2:=h.TY;omega)];refine d6 (R:=λo=>o=decide (((lC (tw r) most (r.waiting.take i)).length:Int)<most/\tw r x=true)) (d5 (λhc=>b9 ?_) (λhc=>b9 ?_)) (λo ho=> ?_)
  ·grind
  ·grind
  ·subst ho;refine d5 (λhc=>f9 (OK.hasRoom (by simp;omega) (k _ ?_))) (λhc=>k _ ?_)
   ·grind
   grind
 ·rw [List.take_length] at hI;exact hI.1
theorem tz(l:List Int)(x:Int):jk x l=some (decide (x∈l)):=by
 grind [jk,hY]
theorem KZ(g:List Int)(p0:List Int)(hp:p0.length<=16)(r11:Nat)(hr:r11<p0.length)(hx:∃x,p0[r11]? =some x/\x∈g)(hpre:∀j,j<r11->∀x,p0[j]? =some x->x∉g):
  OK (loop (xl g) 2199023255552 (p0,(r11:Int),((r11:Int)+1))) (λo=>o.1.length=p0.length/\∃k:Nat,o.2=(k:Int)/\k<=p0.length/\o.1.take k=p0.filter (λx=>decide (x∉g))):=by
 refine OK.rounds (λs=>s.1.length=p0.length/\∃k j:Nat,s.2.1=(k:Int)/\s.2.2=(j:Int)/\k<j/\j<=p0.length/\s.1.take k=(p0.take j).filter (λx=>decide (x∉g))/\s.1.drop j=p0.drop j) (λs=>p0.length-s.2.2.toNat) ?_ 2199023255552 _ ?_ (by simp;omega)
 ·rintro ⟨s,k0,j0⟩ again ⟨h1,k,j,e1,e2,h3,h4,h5,h6⟩ kk;simp only at e1 e2 h1 h5 h6;subst e1;subst e2;unfold xl;simp only [h1];by_cases hj:j<p0.length
  ·refine m9 (by simp;omega) ?_;refine f9 (i7 (by omega) (λx hx=> ?_))
   have hxp:p0[j]? =some x:=by
    have e:=congrArg (λl=>l[0]?) h6
    grind
   rw [tz];simp only [zbs];have hw:w64 ((j:Int)+1)=((j+1:Nat):Int):=by grind [fX]
   have hwk:w64 ((k:Int)+1)=((k+1:Nat):Int):=by grind [fX]
   have hd:s.drop (j+1)=p0.drop (j+1):=by
    have e:=congrArg (List.drop 1) h6
    simpa [yl] using e
   have htk:p0.take (j+1)=p0.take j++[x]:=ep hxp;rw [hw];refine d5 (λhc=> ?_) (λhc=> ?_)
   ·have hng:x∉g:=by simpa using hc
    refine f9 (i7 (by omega) (λy hy=> ?_));rw [hwk];refine kk _ ⟨by simpa using h1,k+1,j+1,rfl,rfl,by omega,by omega,?_,?_⟩ (by simp;omega)
    ·simp only [k8];rw [htk,y8,<- h5];have:(s.set k x)[k]? =some x:=by grind
     rw [x7,this];simp only [Option.toList_some,List.filter_cons,hng,not_false_eq_true,decide_true,q9,List.filter_nil]
     congr 1
     exact List.take_set_of_le (by omega)
    ·simp only [k8];rw [List.drop_set_of_lt (by omega)];exact hd
   ·have hg:x∈g:=by simpa using hc
    refine kk _ ⟨h1,k,j+1,rfl,rfl,by omega,by omega,?_,hd⟩ (by simp;omega)
    grind
  ·refine j8 (by simp;omega) (b9 ⟨h1,k,rfl,by omega,?_⟩)
   grind
 ·obtain ⟨x,hx,hxg⟩:=hx;refine ⟨rfl,r11,r11+1,rfl,by simp,by omega,by omega,?_,rfl⟩;simp only;rw [ep hx,y8]
  have e1:(p0.take r11).filter (λx=>decide (x∉g))=p0.take r11:=by
   refine List.filter_eq_self.2 (λy hy=> ?_);obtain ⟨j,hj,e⟩:=t9.1 hy
   grind
  rw [e1];simp [hxg]
theorem tf(p0 g:List Int)(hp:p0.length<=16):jr 2199023255552 p0 g=some (p0.filter (λx=>decide (x∉g))):=by
 refine OK.is ?_;unfold jr
 have hix:OK (jA p0 g) (λi=>(i= -1/\∀x∈p0,x∉g)\/∃j:Nat,i=(j:Int)/\j<p0.length/\(∃x,p0[j]? =some x/\x∈g)/\∀q,q<j->∀x,p0[q]? =some x->x∉g):=by
  unfold jA;refine d6 (i4 (Q:=λo=>match o with|.inl _=>∀x∈p0,x∉g|.inr i=>∃j:Nat,i=(j:Int)/\j<p0.length/\(∃x,p0[j]? =some x/\x∈g)/\∀q,q<j->∀x,p0[q]? =some x->x∉g) (λi _=>∀q,q<i->∀x,p0[q]? =some x->x∉g) (λq hq=>by omega) (λi s again hi hI k=> ?_) (λs hI=> ?_)) (λo ho=> ?_)
  ·unfold aE;refine f9 (i7 hi (λx hx=> ?_));rw [tz];simp only [zbs];refine d5 (λhc=>b9 ⟨i,rfl,hi,⟨x,hx,by simpa using hc⟩,hI⟩) (λhc=>k _ (λq hq y hy=> ?_))
   grind
  ·intro x hx;obtain ⟨j,hj,e⟩:=t9.1 hx;exact hI j hj x (by grind)
  grind [b9]
 refine d6 hix (λi hi=> ?_);rcases hi with ⟨rfl,hall⟩|⟨j,rfl,hj,hx,hpre⟩
 ·refine m9 (by simp) (b9 ?_);exact (List.filter_eq_self.2 (λx hx=>by grind)).symm
 ·refine j8 (by simp) ?_
  grind [fX,d6,KZ,cut,b9]
end
open Go.Sx
variable {H M W n:Nat} {r:zb}
theorem E7.mdels{α:Type}{m:List (Int×α)}(h:E7 m)(g:List Int):E7 (mdels m g):=by
 induction g generalizing m with
 |nil=>exact h
 |cons x g ih=>exact ih (h.mdel x)
theorem Gg{α:Type}{m:List (Int×α)}(h:E7 m)(g:List Int)(q:Int):jB (mdels m g) q=if q∈g then none else jB m q:=by
 induction g generalizing m with
 |nil=>simp [mdels]
 |cons x g ih=>
  simp only [mdels];rw [ih (h.mdel x),Iz h]
  grind
theorem IG{α β:Type}(f:α->β)(g:List Int)(m:List (Int×α)):(mdels m g).map (λp=>(p.1,f p.2))=mdels (m.map (λp=>(p.1,f p.2))) g:=by
 induction g generalizing m with
 |nil=>rfl
 |cons x g ih=>simp only [mdels];rw [ih,KU]
def settled(r:zb)(g:List Int):zb:=
 {r with Tl:=⟨r.Tl.maps,mdels r.Tl.held g⟩,Su:=mdels r.Su g,waiting:=r.waiting.filter (λx=>decide (x∉g))}
theorem K0(p:zZ)(x:Int):∃e,bz p [x]=some (e,⟨p.maps,mdel p.held x⟩):=by
 rw [NR,d7 (by simp)];by_cases h:(jB p.held x).isSome=true
 ·rw [d7 (by simpa using h)];exact ⟨_,rfl⟩
 ·rw [d8 (by simpa using h)]
  have:jB p.held x=none:=by cases hh:jB p.held x with
   |none=>rfl
   |some v=>rw [hh] at h;simp at h
  rw [oY this];exact ⟨_,rfl⟩
theorem IH(r:zb)(g:List Int):jN (vt g) (λ(s:zb)=>s) g.length 0 r=some {r with Tl:=⟨r.Tl.maps,mdels r.Tl.held g⟩,Su:=mdels r.Su g}:=by
 refine OK.is (i4 (λi s=>s={r with Tl:=⟨r.Tl.maps,mdels r.Tl.held (g.take i)⟩,Su:=mdels r.Su (g.take i)}) rfl (λi s again hi hI k=> ?_) (λs hI=> ?_))
 ·subst hI;unfold vt;refine f9 (i7 hi (λx hx=> ?_));obtain ⟨e,he⟩:=K0 ⟨r.Tl.maps,mdels r.Tl.held (g.take i)⟩ x
  grind [ep,uU]
 grind
theorem K1(r:zb)(most:Int):(iA r most).Sublist r.waiting:=tx _ _ _
theorem II(h:fk H M W n r)(most:Int):jZ 2199023255552 r most=some (iA r most,settled r (iA r most)):=by
 refine OK.is ?_;unfold jZ;refine d6 (IF h most) (λg hg=> ?_);rw [IH];simp only [zbs];have hw:=h.wlen;have hl:=h.len;rw [tf _ _ (by omega)];simp only [zbs];exact b9 (by rw [hg];rfl)
theorem NV(h:fk H M W n r){most p:Int}(hp:p∈iA r most):∃x,jB r.Su p=some x/\0<x.SR/\∀e∈r.Sq.in_,e=0\/x.SR<=e:=by
 obtain ⟨x,hx,h0⟩:=(h.Uf p).1 ((K1 r most).subset hp);refine ⟨x,hx,h0,?_⟩;have:=DS _ _ _ p hp;unfold tw at this;rw [hx] at this
 simpa using this
theorem nZ(h:fk H M W n r)(g:List Int)(q:Int):jB (settled r g).Su q=if q∈g then none else jB r.Su q:=Gg h.Tk g q
theorem DT(h:fk H M W n r)(hb:n+1<=1000000000)(most:Int):fk H M W (n+1) (settled r (iA r most)):=by
 have h':=h.mono (n':=n+1) (by omega) hb;refine {Sh:=h'.Sh,hl:=h'.hl,maps:=h'.maps,Ui:=h'.Ui,wk:=h'.wk,TY:=h'.TY,Tg:=hb,Uc:=h'.Uc,given:=h'.given,TZ:=h'.TZ,last:=h'.last,Ua:=h'.Ua,TC:=h'.TC,Uw:=h'.Uw,Tk:=h.Tk.mdels _,len:= ?_,prog:=λp x hx=> ?_,held:= ?_,UF:=h.UF.sublist List.filter_sublist,Uf:=λp=> ?_}
 ·have:=Ix (iA r most) r.Su;have h2:=h.len
  grind [settled]
 ·rw [nZ h] at hx;split at hx
  ·cases hx
  ·exact h.prog p x hx
 ·simp only [settled];rw [h.held];exact (IG (λ(z:zT)=>z.module.Maps) _ _).symm
 ·rw [nZ h];simp only [settled,List.mem_filter,zdq,h.Uf p]
  grind
theorem BS(h:fk H M W n r)(p:Int):qS r p=some (match jB r.Su p with|some x=>(x.module,true)|none=>(⟨[],[]⟩,false)):=by
 unfold qS;cases hg:jB r.Su p with
 |none=>rfl
 |some x=>
  have hx:=h.prog p x hg;have h4:x.module.Maps.length<=4:=hx.2.2.1.2.2;have h64:=hx.2.2.2.2.1;rw [d8 (by simp)];simp only [zbs];rw [E6 _ (by omega)];unfold zS room;rw [d7 (by simp;omega)];rfl
end
open Go.Sx
theorem Pst.bind2{α β:Type}{o:Option α}{f:α->Option β}{R:α->Prop}{Q:β->Prop}(h0:Pst o R)(h:∀x,R x->Pst (f x) Q):Pst (o.bind f) Q:=λr e=>by
 obtain ⟨x,h1,hx⟩:=zI e;exact h x (h0 x h1) r hx
theorem o5:type_of% @Pst.bind2:=Pst.bind2
theorem Lc{fu:Nat}{M:zp}{S:zl}{r:qZ×EM}(h:ti fu (pk M S)=some r):∃M1 S1,qN fu M S=some (r.1,M1,S1)/\r.2=pk M1 S1:=by
 rw [NE] at h;obtain ⟨⟨a,M1,S1⟩,h1,rfl⟩:=yf.1 h;exact ⟨M1,S1,h1,rfl⟩
theorem Gn{M:zp}{S:zl}{c:zk}{r:Int×EM}(h:ml (pk M S) c=some r):∃M1,jF M c S=some (r.1,M1)/\r.2=pk M1 S:=by
 rw [Ip] at h;obtain ⟨⟨e,M1⟩,h1,rfl⟩:=yf.1 h;exact ⟨M1,h1,rfl⟩
inductive P3:zp->zl->List zk->List qZ->Nat->Prop
 |stop {M M1:zp} {S S1:zl} {a:qZ} {rs:List zk}:qN 2199023255552 M S=some (a,M1,S1)->a.RZ=4->M1.steps=w64 (M.steps+1)->P3 M S rs [a] 0
 | ask {M M1 M2 : zp} {S S1 : zl} {a : qZ} {c : zk} {rs : List zk} {l : List qZ} {n : Nat} : qN 2199023255552 M S = some (a, M1, S1) -> a.RZ = 2 -> jF M1 c S1 = some (0, M2) ->
   M2.steps=w64 (M.steps+1)->P3 M2 S1 rs l n->P3 M S (c::rs) (a::l) (n+1)
 |go {M M1:zp} {S S1:zl} {a:qZ} {rs:List zk} {l:List qZ} {n:Nat}:qN 2199023255552 M S=some (a,M1,S1)->a.RZ=1\/a.RZ=3->M1.steps=w64 (M.steps+1)->P3 M1 S1 rs l n->P3 M S rs (a::l) n
def Qr(m:zC)(E:qv):zp:=⟨E,m,λ_=>0,λ_=>0,0,0,0⟩
theorem I2{m:zC}(h1:m.Maps.length*8<=140737488355328)(h2:m.Code.length*40<=140737488355328){o:Option zj}(h:jX 2199023255552 m=some (o,0,0))(E:qv)(S:zl):
  eU 2199023255552 m E S=some (some (Qr m E),0,⟨⟨λ_=>0⟩,S.SF⟩):=by
 unfold eU;rw [wA h];simp only [zbs];rw [d8 (by simp)];simp only [bI,Nd h1,Ng h2,zbs];rfl
theorem Ld{m:zC}{o:Option zj}{p e:Int}(h:jX 2199023255552 m=some (o,p,e))(he:e≠0)(E:qv)(S:zl):
  eU 2199023255552 m E S=some (none,e,S):=by
 grind [eU,wA]
def U5(t:zN):Prop:=u64 t.Ud/\u64 t.Ts/\u64 t.TN/\u64 t.Calls/\u64 t.Sum
def uZ(t u:zN):zN:=⟨xS (t.Ud+u.Ud),xS (t.Ts+u.Ts),xS (t.TN+u.TN),xS (t.Calls+u.Calls),xS (t.Sum+u.Sum)⟩
theorem Le(t u:zN):U5 (uZ t u):=⟨xc _,xc _,xc _,xc _,xc _⟩
theorem RB{x:Int}(h:u64 x):xS (0+x)=x:=by rw [Int.zero_add,xR h.1 h.2]
theorem P4{t u:zN}(h:U5 t):lZ [t,u]=some (uZ t u):=by
 obtain ⟨a,b,c,d,e⟩:=h;show some (uZ (uZ ⟨0,0,0,0,0⟩ t) u)=_
 grind [uZ,RB]
theorem Fm{h:Int}(h0:0<=h)(h1:h<4):eP h=some true:=by
 grind [eP]
theorem Re{h:Int}(h0:0<=h)(h1:h<4):ain 4 h=some h.toNat:=by grind [ain]
theorem P5{st:zR}{h:Int}(h0:0<=h)(h1:h<4)(hu:U5 (st.Sh h.toNat))(s c v:Int):bX st h s c v=some (0,⟨aset st.Sh h.toNat (uZ (st.Sh h.toNat) ⟨1,0,s,c,v⟩)⟩):=by
 grind [bX,Fm,Re,P4]
def Fo(t:zN):zN:={t with Ts:=xS (t.Ts+1)}
theorem I3{st:zR}{h:Int}(h0:0<=h)(h1:h<4):vN st [h]=some (0,⟨aset st.Sh h.toNat (Fo (st.Sh h.toNat))⟩):=by
 unfold vN
 have e1:jN (vL st [h]) (λ(s127:Unit)=>(.inl ())) ([h]).length 0 ()=some (.inl ()):=by
  show vL st [h] 0 _ ()=_;unfold vL;have:idx [h] ((0:Nat):Int)=some h:=rfl;rw [this];simp only [zbs,Fm h0 h1];rfl
 have e2:jN (vM [h]) (λ(s284:zR)=>s284) ([h]).length 0 st=some ⟨aset st.Sh h.toNat (Fo (st.Sh h.toNat))⟩:=by
  show vM [h] 0 _ st=_;unfold vM;have:idx [h] ((0:Nat):Int)=some h:=rfl;rw [this];simp only [zbs,Re h0 h1];rfl
 grind
def Qs(st:zR):Prop:=∀i,U5 (st.Sh i)
theorem Qs.aset{st:zR}(h:Qs st)(k:Nat){t:zN}(ht:U5 t):Qs ⟨Go.Sx.aset st.Sh k t⟩:=by
 intro i;show U5 (Go.Sx.aset st.Sh k t i);unfold Go.Sx.aset;split
 ·exact ht
 ·exact h i
theorem I4{t:zN}(h:U5 t):U5 (Fo t):=⟨h.1,xc _,h.2.2.1,h.2.2.2.1,h.2.2.2.2⟩
end Go.Proofs.YtplmgfkghomelaaGreatDoor
namespace Go.Proofs.YtplmgfkghomelaaGreatDoor.KH
open Go.Sx
theorem EV{σ ρ:Type}{body:Nat->(σ->Option ρ)->σ->Option ρ}{out:σ->ρ}{I:σ->Prop}{Q:ρ->Prop}
  (h:∀i s (again:σ->Option ρ),I s->(∀s',I s'->Pst (again s') Q)->Pst (body i again s) Q) (ho:∀s,I s->Q (out s)):
  ∀(n i:Nat)(s:σ),I s->Pst (jN body out n i s) Q
 |0,i,s,hi=>g8 (ho s hi)
 |n+1,i,s,hi=>h i s _ hi λs' hs=>EV h ho n (i+1) s' hs
def VM(l:List zr):Prop:=∀p∈l,u64 p.SV
theorem z64:u64 0:=⟨by decide,by decide⟩
theorem VM.at{l:List zr}(h:VM l){t:Int}:Pst (Go.Sx.idx l t) (λp=>u64 p.SV):=λp e=>by
 unfold Go.Sx.idx at e;split at e
 ·exact h p (zmg e)
 ·cases e
theorem oL{fu:Nat}{b:qp}(h:VM b.Sc){op k x:Int}(hx:u64 x):Pst (jP fu b op k x) (λr=>VM r.2.Sc/\u64 r.1.SV):=by
 unfold jP;refine j9 (g8 ⟨h,z64⟩) (i8 λf=> ?_);refine o5 (R:=λo=>u64 o.SV) (j9 (o5 h.at λp hp=>g8 hp) (g8 z64)) λo ho=> ?_
 refine j9 (j9 (o5 (R:=VM) (λl e p hp=> ?_) λl hl=>g8 ⟨hl,ho⟩) (g8 ⟨h,ho⟩)) ?_
 ·obtain ⟨i,j,_,_,_,_,rfl⟩:=oC e;rcases i5.1 hp with hp|hp
  ·exact h p (z9 hp)
  ·exact h p (List.mem_of_mem_drop hp)
 refine i8 λg=>j9 (j9 (g8 ⟨h,z64⟩) ?_) (g8 ⟨h,ho⟩)
 refine o5 (R:=λb:qp=>VM b.Sc) (j9 (o5 (R:=λq=>VM q.1) (λq e p hp=> ?_) λq hq=>g8 hq) (g8 h)) λb2 hb2=> ?_
 ·obtain ⟨i,_,_,_,rfl⟩:=A9 e;rcases i5.1 hp with hp|hp
  ·rcases i5.1 hp with hp|hp
   ·exact h p (z9 hp)
   ·rw [i6.1 hp];exact z64
  ·exact h p (List.mem_of_mem_drop hp)
 refine o5 (R:=λq:Int×zk=>u64 q.1/\u64 q.2.SV) (j9 (g8 ⟨xc _,xc _⟩) (g8 ⟨hx,ho⟩)) λq hq=> ?_
 refine i8 λy=>g8 ⟨λp hp=> ?_,hq.2⟩
 rcases p9 hp with hp|rfl
 ·exact hb2 p hp
 ·exact hq.1
theorem pE{fu:Nat}{a:qB}{k:Int}:Pst (xD fu a k) (λr=>r.Tq=a.Tq):=by
 unfold xD;exact i8 λ_=>g8 rfl
theorem DH{fu:Nat}{a:qB}{k:Int}:Pst (xW fu a k) (λr=>r.Tq=a.Tq):=by
 unfold xW;exact o5 pE λr hr=>i8 λ_=>g8 hr
theorem KJ{fu:Nat}{a:qB}(h:VM a.Tq.Sc){op k x:Int}(hx:u64 x):Pst (dQ fu a op k x) (λr=>VM r.2.Tq.Sc/\u64 r.1.SV):=by
 unfold dQ;refine o5 (oL h hx) λr hr=> ?_
 refine o5 (R:=λo:qB×zk=>VM o.1.Tq.Sc/\u64 o.2.SV) (j9 ?_ (g8 hr)) λo ho=> ?_
 ·refine o5 (R:=λe:qB×zk=>VM e.1.Tq.Sc) ?_ λe he=>o5 (oL he hx) λq hq=>g8 hq
  unfold cB;refine i8 λy=>o5 (oL (b:=r.2) (op:=3) (k:=y) hr.1 z64) λs hs=> ?_
  exact o5 pE λd hd=>g8 (by show VM d.Tq.Sc;rw [hd];exact hs.1)
 ·refine j9 (g8 ⟨ho.1,ho.2⟩) (i8 λg=>j9 (o5 DH λd hd=>g8 ⟨by show VM d.Tq.Sc;rw [hd];exact ho.1,ho.2⟩) (j9 (o5 pE λd hd=>g8 ⟨by show VM d.Tq.Sc;rw [hd];exact ho.1,ho.2⟩) (g8 ⟨ho.1,ho.2⟩)))
def shv(s:qo):List zr:=match s with
 |.inl b=>b.Sc
 |.inr a=>a.Tq.Sc
theorem F0{fu:Nat}{s:qo}(h:VM (shv s)){op k x:Int}(hx:u64 x):Pst (jH fu s op k x) (λr=>VM (shv r.2)/\u64 r.1.SV):=by
 cases s with
 |inl b=>unfold jH;exact o5 (oL h hx) λr hr=>g8 hr
 |inr a=>unfold jH;exact o5 (KJ h hx) λr hr=>g8 hr
structure F1 (o:zc):Prop where
 maps:∀s∈o.maps,VM (shv s)
 Se:∀r∈o.Se,u64 r.Item.SV
theorem Bz{fu:Nat}{o:zc}(h:F1 o):Pst (jK fu o) (λq=>u64 q.1.SQ.SV/\∀s∈q.2.2.maps,VM (shv s)):=by
 unfold jK;refine j9 (g8 ⟨z64,h.maps⟩) ?_;refine o5 (R:=λx=>u64 x.Item.SV) (λx e=> ?_) λx hx=>i8 λys=>j9 (i8 λs=>i8 λps=>g8 ⟨z64,h.maps⟩) ?_
 ·unfold Go.Sx.idx at e;split at e
  ·exact h.Se x (zmg e)
  ·cases e
 refine o5 (R:=λs=>VM (shv s)) (λs e=> ?_) λs hs=>o5 (F0 hs hx) λq hq=>g8 ⟨hq.2,λt ht=> ?_⟩
 ·unfold Go.Sx.idx at e;split at e
  ·exact h.maps s (zmg e)
  ·cases e
 ·rcases p9 ht with ht|rfl
  ·exact h.maps t ht
  ·exact hq.1
theorem DI{d:jL}{s:qo}(h:dV d=some (some s,0)):shv s=[]:=by
 unfold dV at h;split at h
 ·rcases sd d.Ur with e|⟨b,e,_,hp⟩
  ·rw [e] at h;cases h
  ·rw [e] at h;simp [vB] at h;subst h;exact hp
 ·split at h
  ·unfold pu at h;rcases sd d.Ur with e|⟨b,e,_,hp⟩
   ·rw [e] at h;simp [vB] at h
   ·rw [e] at h;simp [vB] at h;subst h;exact hp
  ·cases h
theorem DJ{s n:Int}{ds:List jL}{o:zc}{e:Int}(h:bO s n ds=some (some o,e)):F1 o:=by
 have:Pst (bO s n ds) (λq=>∀o,q.1=some o->F1 o):=by
  unfold bO;refine j9 (g8 λo e=>by cases e) ?_;refine o5 (R:=λq=>match q with|.inl o=>F1 o|.inr z=>z.1=none) (λq e=> ?_) λq hq=> ?_
  ·exact EV (I:=λo=>F1 o) (Q:=λq=>match q with|.inl o=>F1 o|.inr z=>z.1=none) (λi o again ho ha=>by
    unfold iu;refine i8 λd=> ?_
    intro q hq;rcases Bw d with ⟨e,he,hne⟩|⟨m,hm,_⟩
    ·rw [he] at hq;simp only [zbs,vB] at hq;split at hq
     ·cases hq;rfl
     ·cases hq
    ·have hm2:=DI hm;rw [hm] at hq;simp only [zbs,vB] at hq;rw [d8 (by simp)] at hq;revert q;refine i8 λ_=>ha _ ⟨λt ht=> ?_,ho.Se⟩
     rcases i5.1 ht with ht|ht
     ·exact ho.maps t ht
     ·rw [i6.1 ht,hm2];exact λp hp=>by cases hp) (λo ho=>ho) _ _ _ ⟨λt ht=>(by cases ht),λr hr=>(by cases hr)⟩ q e
  ·cases q with
   |inl o=>exact g8 λo2 e=>by cases e;exact hq
   |inr z=>exact g8 λo2 e=>by rw [show z.1=none from hq] at e;cases e
 exact this _ h o rfl
open Go.Sx
theorem F3{c:zH}{fu:Nat}(h0:0<=c.Sf)(h4:c.Sf<=4)(hfu:10<fu):
  ∃o,loop (nG c) fu ([],0)=some o/\match o with
   |.inl os=>(os.length:Int)=c.Sf/\∀(i:Nat)(x:zc),os[i]? =some x->iM x/\x.Se=[]/\x.Sk=false/\x.Te=c.Sf/\x.TA=i/\x.maps.length=c.Maps.length/\F1 x
   |.inr z=>z.1=none/\z.2≠0:=by
 refine oM (λm s=>(s.1.length:Int)=s.2/\s.2<=c.Sf/\s.2+m=c.Sf/\∀(i:Nat)(x:zc),s.1[i]? =some x->iM x/\x.Se=[]/\x.Sk=false/\x.Te=c.Sf/\x.TA=i/\(x.maps.length=c.Maps.length/\F1 x)) _ (λm s again hI ha=> ?_) fu c.Sf.toNat ([],0) (by omega) ⟨rfl,h0,by grind,λi x hx=>by simp at hx⟩;obtain ⟨rs,i⟩:=s;obtain ⟨a1,a2,a3,a4⟩:=hI;have a1:(rs.length:Int)=i:=a1;have a2:i<=c.Sf:=a2;have a3:i+m=c.Sf:=a3;unfold nG;show ∃r,(if decide (i<c.Sf)=true then _ else _)=some r/\_;by_cases hc:i<c.Sf
 ·rw [d7 (by simpa using hc)];rcases Bx i c.Sf c.Maps with ⟨e,hn,hne⟩|⟨r,hn,hr,b1,b2,b3,b4,b5,_⟩
  ·exact ⟨.inr (none,e),by grind [vB],rfl,hne⟩
  ·rw [show bO (rs,i).2 c.Sf c.Maps=_ from hn,zbs];simp only [vB];rw [d8 (by simp)];obtain ⟨u,hu⟩:=cG (m:=rs.length+[r].length) (b:=8) (by grind);rw [hu,zbs,qt (by omega) (by omega)];refine ha (m-1) _ (by omega) ⟨?_,?_,?_,λj x hx=> ?_⟩
   ·grind
   ·grind
   ·grind
   ·have hx:(rs++[r])[j]? =some x:=hx;rcases Nat.lt_or_ge j rs.length with hj|hj
    ·grind
    ·rw [y4 hj] at hx
     have hj2:j-rs.length=0:=by
      grind
     grind [DJ]
 ·rw [d8 (by simpa using hc)]
  grind
end Go.Proofs.YtplmgfkghomelaaGreatDoor.KH
namespace Go.Proofs.YtplmgfkghomelaaGreatDoor
open Go.Sx
def PK(K:Nat)(w:zm)(st:Int):Prop:=∃m j M p i,w.SL.TR=some M/\Ba m j/\(∀x∈m.Maps,x<(K:Int))/\Run m j (pk M w.SX) p/\M.state=st/\m.Code[p]? =some i/\(st=1->i.Op=21/\i.SU<=4)
structure WJ (H K:Nat) (w:zm):Prop where
 told:Qs w.Tm
 hook:0<=w.SL.hook/\w.SL.hook<H
 ev:u64 w.SL.SP.Sz.A/\u64 w.SL.SP.Sz.B
 is:w.Si=0\/w.Si=1\/(w.Si=2/\PK K w 0)\/(w.Si=3/\PK K w 1)
def mZ(w:zm):Int:=match w.SL.TR with
 |none=>0
 |some M=>pot M.module.Code M.LE M.SB.toNat M.module.Code.length
theorem ky{m:zC}{j:zj}{w:zm}{M:zp}{p:Nat}(hM:w.SL.TR=some M)(h:Run m j (pk M w.SX) p):mZ w=pot m.Code M.LE p m.Code.length:=by
 have h1:M.module=m:=h.Ug;have h2:M.SB=p:=h.SB
 grind [mZ,pot]
theorem uz5:U5 ⟨0,0,0,0,0⟩:=⟨⟨by decide,by decide⟩,⟨by decide,by decide⟩,⟨by decide,by decide⟩,⟨by decide,by decide⟩,by decide,by decide⟩
theorem KK:u64 0/\u64 0:=⟨⟨by decide,by decide⟩,by decide,by decide⟩
theorem WJ.new{H K:Nat}(hH:1<=H):∃w,eN=some w/\WJ H K w/\w.Si=0/\w.SL.hook=0:=by
 refine ⟨_,rfl,⟨λi=>uz5,⟨r6 0,by grind⟩,KK,.inl rfl⟩,rfl,rfl⟩
theorem PL{H K:Nat}{w:zm}(h:WJ H K w)(hH:H<=4)(h0:w.Si=0){k:Int}(hk0:0<=k)(hk:k<H){q:zY}(hq:u64 q.Sz.A/\u64 q.Sz.B):
  vK w k q=some (0,{w with Si:=1,SL:=⟨k,q,0,0,0,none⟩})/\WJ H K {w with Si:=1,SL:=⟨k,q,0,0,0,none⟩}:=by
 refine ⟨?_,⟨h.told,⟨hk0,hk⟩,hq,.inr (.inl rfl)⟩⟩
 grind [vK]
theorem PM{H K:Nat}{w:zm}(h:WJ H K w)(hH1:1<=H)(hH:H<=4)(h1:w.Si=1):
  ∃st,xG w=some (0,⟨w.SX,st,0,⟨0,⟨0,⟨0,0⟩⟩,0,0,0,none⟩⟩)/\WJ H K ⟨w.SX,st,0,⟨0,⟨0,⟨0,0⟩⟩,0,0,0,none⟩⟩:=by
 refine ⟨⟨aset w.Tm.Sh w.SL.hook.toNat (Fo (w.Tm.Sh w.SL.hook.toNat))⟩,?_,⟨h.told.aset _ (I4 (h.told _)),⟨r6 0,by grind⟩,KK,.inl rfl⟩⟩;unfold xG;have:=h.hook;rw [d8 (by simp [h1]),I3 this.1 (by omega)];rfl
theorem Ih{H K:Nat}{w:zm}(h:WJ H K w)(h1:w.Si=1){m:zC}(hm1:m.Maps.length*8<=140737488355328)(hm2:m.Code.length*40<=140737488355328)(hK:∀x∈m.Maps,x<(K:Int))(v p:Int):
  ∃e w',jV 2199023255552 w v p m=some (e,w')/\WJ H K w'/\((e≠0/\w'=w/\∃o q,jX 2199023255552 m=some (o,q,e))\/
   (e=0/\w'=⟨⟨⟨λ_=>0⟩,w.SX.SF⟩,w.Tm,2,⟨w.SL.hook,w.SL.SP,v,p,w.SL.calls,some (Qr m w.SL.SP.Sz)⟩⟩/\mZ w'<=uu m.Code m.Code.length)):=by
 obtain ⟨o,q,e,hj,hc⟩:=mc m;rcases hc with ⟨he,ho⟩|⟨he,hq,j,ho,hS⟩
 ·refine ⟨e,w,?_,h,.inl ⟨he,rfl,o,q,hj⟩⟩;unfold jV;rw [d8 (by simp [h1]),Ld hj he];simp only [zbs];show (if (e !=0)=true then _ else _)=_;rw [d7 (by simpa using he)]
 ·subst he hq;have hR:Run m j (pk (Qr m w.SL.SP.Sz) ⟨⟨λ_=>0⟩,w.SX.SF⟩) 0:=Rl hS h.ev w.SX.SF;obtain ⟨i,hi,_⟩:=aJ hR.lt;refine ⟨0,_,?_,?_,.inr ⟨rfl,rfl,?_⟩⟩
  ·unfold jV;rw [d8 (by simp [h1]),I2 hm1 hm2 hj];rfl
  ·exact ⟨h.told,h.hook,h.ev,.inr (.inr (.inl ⟨rfl,m,j,Qr m w.SL.SP.Sz,0,i,rfl,hS,hK,hR,rfl,hi,λe=>by cases e⟩))⟩
  ·exact It hS.TF
theorem F4{M:zp}{k:Int}{S:zl}(hu:tA M.regs):Pst (jW 2199023255552 M k S) (λr=>u64 r.1.Item.Tc/\u64 r.1.Item.SV):=by
 unfold jW;refine i8 λ_=>j9 (i8 λ_=>i8 λ_=>o5 (R:=λo=>u64 o) (j9 (g8 (hu 3 (by decide))) (g8 ⟨by decide,by decide⟩)) λo ho=>g8 ⟨hu 2 (by decide),ho⟩) ?_
 exact o5 (R:=λo:zp×zl×qZ=>u64 o.2.2.Item.Tc/\u64 o.2.2.Item.SV) (j9 (i8 λ_=>g8 KK) (g8 KK)) (λo ho=>g8 ho)
theorem F5{M:zp}{S:zl}(hu:tA M.regs):Pst (qN 2199023255552 M S) (λr=>u64 r.1.Item.Tc/\u64 r.1.Item.SV):=by
 unfold qN;refine j9 (g8 KK) (j9 (i8 λ_=>i8 λ_=>g8 KK) (i8 λ_=>j9 ?_ (j9 (i8 λ_=>g8 KK) (i8 λ_=>g8 KK))))
 grind [o5,u64,F4,w64,g8]
inductive F6 (H K:Nat) (w:zm) (a:qZ) (w':zm):Prop
 |ends:a.RZ=4->w'.Si=0->w'.SL=⟨0,⟨0,⟨0,0⟩⟩,0,0,0,none⟩->F6 H K w a w'
 |asks:a.RZ=2->w'.Si=3->w'.SL.hook=w.SL.hook->w'.SL.SP=w.SL.SP->w'.SL.prog=w.SL.prog->w'.SL.SA=w.SL.SA->(0<=a.Item.SO/\a.Item.SO<K/\0<=a.Item.Op/\a.Item.Op<5/\u64 a.Item.Tc/\u64 a.Item.SV)->mZ w'<=mZ w->F6 H K w a w'
 |goes:a.RZ=1\/a.RZ=3->w'.Si=2->w'.SL.hook=w.SL.hook->w'.SL.SP=w.SL.SP->w'.SL.prog=w.SL.prog->w'.SL.SA=w.SL.SA->mZ w'+1<=mZ w->F6 H K w a w'
theorem Nz{H K:Nat}{w:zm}(hH1:1<=H)(hH:H<=4)(h:WJ H K w)(h2:w.Si=2):∃a w',ja 2199023255552 w=some (a,true,w')/\WJ H K w'/\F6 H K w a w':=by
 obtain ⟨m,j,M,p,i,hM,hS,hK,hR,h0,hi,_⟩:PK K w 0:=by
  rcases h.is with e|e|e|e
  ·omega
  ·omega
  ·exact e.2
  ·omega
 obtain ⟨⟨a,M1'⟩,h1,hst,hpc⟩:=Kn hS hR h0 hi;obtain ⟨M1,S1,g1,rfl⟩:=Lc h1;simp only at g1;have hit:u64 a.Item.Tc/\u64 a.Item.SV:=F5 hR.u _ g1;have hk4:w.SL.hook<4:=by have:=h.hook.2;omega
 have hl:mZ w=pot m.Code M.LE p m.Code.length:=ky hM hR;unfold ja;rw [d8 (by simp [h2]),hM];simp only [zbs,g1];cases hst with
 |ends e1 e2 e3 e4=>
  simp only at e2;rw [d8 (by simp [e2]),d7 (by simp [e2])];unfold au;simp only [zbs];rw [P5 h.hook.1 hk4 (h.told _)];simp only [zbs];exact ⟨a,_,rfl,⟨h.told.aset _ (Le _ _),⟨r6 0,by grind⟩,KK,.inl rfl⟩,.ends e2 rfl rfl⟩
 |asks e1 e2 e3 e4 e5 e6 e7=>
  simp only at e3 e4 e5 e6 e7;rw [d7 (by simp [e3])];refine ⟨a,_,rfl,{h with is:=.inr (.inr (.inr ⟨rfl,m,j,M1,p,i,rfl,hS,hK,e5,e4,hi,λ_=>⟨e1,e2⟩⟩))},.asks e3 rfl rfl rfl rfl rfl ⟨?_,hK _ e7.1,e7.2.1,e7.2.2,hit.1,hit.2⟩ ?_⟩
  ·exact (hS.goodM.1 _ e7.1).1
  ·rw [hl];show mZ ⟨S1,w.Tm,3,⟨w.SL.hook,w.SL.SP,w.SL.SA,w.SL.prog,xS (w.SL.calls+1),some M1⟩⟩<=_;rw [ky (w:=⟨S1,w.Tm,3,⟨w.SL.hook,w.SL.SP,w.SL.SA,w.SL.prog,xS (w.SL.calls+1),some M1⟩⟩) rfl e5];have e6:M1.LE=M.LE:=e6
   grind
 |goes e1 e2 e3=>
  simp only at e1 e2 e3;obtain ⟨q,hR2,hp2,_⟩:=e3;have hp2:pot m.Code M1.LE q m.Code.length+1<=pot m.Code M.LE p m.Code.length:=hp2;obtain ⟨i2,hi2,_⟩:=aJ hR2.lt;rw [d8 (by simp;omega),d8 (by simp;omega)];refine ⟨a,_,rfl,⟨h.told,h.hook,h.ev,.inr (.inr (.inl ⟨h2,m,j,M1,q,i2,rfl,hS,hK,hR2,e2,hi2,λe=>by cases e⟩))⟩,.goes e1 h2 rfl rfl rfl rfl ?_⟩;rw [hl,ky (w:=⟨S1,w.Tm,w.Si,⟨w.SL.hook,w.SL.SP,w.SL.SA,w.SL.prog,w.SL.calls,some M1⟩⟩) rfl hR2];exact hp2
theorem pF{H K:Nat}{w:zm}(h:WJ H K w)(h3:w.Si=3){c:zk}(hc:u64 c.SV):∃w',xi w c=some (0,w')/\WJ H K w'/\w'.Si=2/\w'.SL.hook=w.SL.hook/\w'.SL.SP=w.SL.SP/\w'.SL.prog=w.SL.prog/\w'.SL.SA=w.SL.SA/\mZ w'+1<=mZ w:=by
 obtain ⟨m,j,M,p,i,hM,hS,hK,hR,h0,hi,ho⟩:PK K w 1:=by
  rcases h.is with e|e|e|e
  ·omega
  ·omega
  ·omega
  ·exact e.2
 obtain ⟨ho,h4⟩:=ho rfl;obtain ⟨⟨e,M1'⟩,h1,he,s0,q,hR2,hp2,_⟩:=HM hS hR h0 hi ho h4 hc;obtain ⟨M1,g1,rfl⟩:=Gn h1;simp only at g1 he s0 hR2 hp2;have hp2:pot m.Code M1.LE q m.Code.length+1<=pot m.Code M.LE p m.Code.length:=hp2;have s0:M1.state=0:=s0;subst he;obtain ⟨i2,hi2,_⟩:=aJ hR2.lt;unfold xi;rw [d8 (by simp [h3]),hM];simp only [zbs,g1];refine ⟨_,rfl,⟨h.told,h.hook,h.ev,.inr (.inr (.inl ⟨rfl,m,j,M1,q,i2,rfl,hS,hK,hR2,s0,hi2,λe=>by cases e⟩))⟩,rfl,rfl,rfl,rfl,rfl,?_⟩;rw [ky hM hR,ky (w:={w with Si:=2,SL:=⟨w.SL.hook,w.SL.SP,w.SL.SA,w.SL.prog,w.SL.calls,some M1⟩}) rfl hR2];exact hp2
end Go.Proofs.YtplmgfkghomelaaGreatDoor
namespace Go.Proofs.YtplmgfkghomelaaGreatDoor.KH
open Go.Sx
theorem oG{α:Type}{l:List α}{i:Nat}{x:α}(h:l[i]? =some x):l.take (i+1)=l.take i++[x]:=by
 rw [x7,h];rfl
def nQ(w:zm):zE:=⟨w,0,0,none,false⟩
def Qk:zA:=⟨0,0,[],[]⟩
def Bb(s:List zK):ze:=⟨s,0,false,0,Qk,[],[]⟩
theorem HV{c:zH}{fu:Nat}{w0:zm}(hw:eN=some w0)(h0:0<=c.Sa)(h4:c.Sa<=4)(hfu:10<fu):
  loop (kP c) fu ([],0)=some (List.replicate c.Sa.toNat (nQ w0)):=by
 obtain ⟨r,h1,rfl⟩:=oM (body:=kP c) (λm s=>∃n:Nat,s.2=(n:Int)/\s.1=List.replicate n (nQ w0)/\(n:Int)+m=c.Sa) (λr=>r=List.replicate c.Sa.toNat (nQ w0)) (λm s again hI ha=>by
  obtain ⟨l,i⟩:=s;obtain ⟨n,e1,e2,e3⟩:=hI;have e1:i=(n:Int):=e1;have e2:l=List.replicate n (nQ w0):=e2;subst e1 e2;unfold kP;show ∃r,(if decide ((n:Int)<c.Sa)=true then _ else _)=some r/\_;by_cases hc:(n:Int)<c.Sa
  ·rw [d7 (by simpa using hc),hw,zbs];obtain ⟨u,hu⟩:=cG (m:=(List.replicate n (nQ w0)).length+[nQ w0].length) (b:=8) (by grind);rw [show room ((List.replicate n (nQ w0),(n:Int)).1.length+[zE.mk w0 0 0 none false].length) 8=some u from hu,zbs,qt (by omega) (by omega)];refine ha (m-1) _ (by omega) ⟨n+1,by grind,?_,by omega⟩;show List.replicate n (nQ w0)++[nQ w0]=_;rw [List.replicate_succ']
  grind) fu c.Sa.toNat ([],0) (by omega) ⟨0,rfl,rfl,by omega⟩
 exact h1
structure Fit (c:zK):Prop where
 items:c.SI.length*32<=140737488355328
 Ug:c.SC.length<=140737488355328
 ev:u64 c.Sz.A/\u64 c.Sz.B
 it:u64 c.Item.SV
 its:∀i∈c.SI,u64 i.SV
theorem Di(l:List zK)(h:∀c∈l,Fit c):(l.foldlM (λ(_:Unit)c=>(zG c.SI).bind λ_=>(qR c.SC).bind λ_=>some ()) ())=some ():=by
 induction l with
 |nil=>rfl
 |cons c l ih=>
  have hc:=h c zcs;obtain ⟨u,hu⟩:=cG (m:=([]:List zg).length+c.SI.length) (b:=32) (by have:=hc.items;simpa using this);obtain ⟨v,hv⟩:=cG (m:=([]:List Int).length+c.SC.length) (b:=1) (by have:=hc.Ug;simpa using this);rw [List.foldlM_cons];unfold zG qR;rw [hu,hv];exact ih λx hx=>h x (zcm _ hx)
theorem HW{l:List zK}(hl:l.length<=64)(h:∀c∈l,Fit c):bP l=some l:=by
 unfold bP;obtain ⟨u,hu⟩:=cG (m:=0+l.length) (b:=128) (by omega)
 grind [zG,qR,Di]
theorem Dj{ss:List (List zK)}(hn:ss.length<=4)(hf:∀s∈ss,∀c∈s,Fit c):
  ∃o,jN (nJ ss) (λ(s:List ze)=>(.inl s)) ss.length 0 ([]:List ze)=some o/\match o with
   |.inl l=>l=ss.map Bb/\∀s∈ss,s.length<=64
   |.inr z=>z.1=none/\z.2≠0:=by
 refine mK (N:=ss.length) (λi l=>l=(ss.take i).map Bb/\∀s∈ss.take i,s.length<=64) _ (λi s again hi hI ha=> ?_) (λs hs=> ?_) ss.length 0 [] (by omega) ⟨rfl,λs hs=>by simp at hs⟩
 ·obtain ⟨rfl,hI⟩:=hI;unfold nJ;rw [nu hi,zbs];have hx:ss[i]? =some ss[i]:=zeg hi;by_cases hc:((ss[i].length:Nat):Int)>64
  ·rw [d7 (by simpa using hc)]
   grind
  ·rw [d8 (by simpa using hc),HW (by omega) (hf _ (ym hi)),zbs];obtain ⟨u,hu⟩:=cG (m:=((ss.take i).map Bb).length+[Bb ss[i]].length) (b:=8) (by grind);rw [show room (((ss.take i).map Bb).length+[ze.mk ss[i] 0 false 0 (zA.mk 0 0 ([]:List zk) ([]:List zr)) ([]:List (List zr)) ([]:List zA)].length) 8=some u from hu,zbs];refine ha _ ⟨?_,λs hs=> ?_⟩
   ·show (ss.take i).map Bb++[Bb ss[i]]=_;rw [oG hx,u5];rfl
   ·rw [oG hx] at hs
    grind
 grind
structure Kr (c:zH) (ss:List (List zK)) (h:za):Prop where
 hk:1<=c.Sj/\c.Sj<=4
 wk:1<=c.Sa/\c.Sa<=4
 sh:1<=c.Sf/\c.Sf<=4
 mp:c.Maps.length<=4
 cl:1<=ss.length/\ss.length<=4
 sl:∀s∈ss,s.length<=64
 is:∃r os rs w0,eN=some w0/\fk c.Sj.toNat c.Maps.length c.Sa.toNat 0 r/\r.given=0/\r.Sr.SH.last=0/\(r.Su=[]/\∀u∈r.Sr.Sh,u.SA=0)/\r.waiting=[]/\r.Sq.in_=List.replicate c.Sa.toNat 0/\
  ((os.length:Int)=c.Sf/\∀(i:Nat)(x:zc),os[i]? =some x->iM x/\x.Se=[]/\x.Sk=false/\x.Te=c.Sf/\x.TA=i/\x.maps.length=c.Maps.length/\F1 x)/\
  ((rs.length:Int)=c.Sj/\∀r∈rs,ku r/\r.waiting=[]/\r.Tu=false/\r.room=c.SS/\r.counts=⟨0,0,0,0,0⟩)/\
  h=⟨r,⟨List.replicate (ss.length+c.Sa.toNat+c.Sf.toNat+1) ⟨0,0⟩,0⟩,c,ss.map Bb,List.replicate c.Sa.toNat (nQ w0),os,rs,[],[],0,false,false,[],⟨0⟩⟩
theorem Dk{fu:Nat}(hfu:10<fu)(c:zH)(ss:List (List zK))(hf:∀s∈ss,∀c∈s,Fit c):
  (∃e,dW fu c ss=some (none,e)/\e≠0)\/∃h,dW fu c ss=some (some h,0)/\Kr c ss h:=by
 by_cases hb:¬ (1<=c.Sj/\c.Sj<=4/\0<=(c.Maps.length:Int)/\(c.Maps.length:Int)<=4/\1<=c.Sa/\c.Sa<=4)
 ·refine .inl ⟨2,?_,by decide⟩;unfold dW;rw [NS hb];rfl
 obtain ⟨b1,b2,b3,b4,b5,b6⟩:=Classical.not_not.1 hb;obtain ⟨r,hr,r0,r1,r2,r3,r4,r5⟩:=PS (H:=c.Sj.toNat) (M:=c.Maps.length) (W:=c.Sa.toNat) (by omega) (by omega) (by omega) (by omega) (by omega);rw [show ((c.Sj.toNat:Nat):Int)=c.Sj by omega,show ((c.Sa.toNat:Nat):Int)=c.Sa by omega] at hr;by_cases hc:c.Sf<1\/c.Sf>4\/(ss.length:Int)<1\/(ss.length:Int)>4
 ·refine .inl ⟨2,?_,by decide⟩
  grind [dW,vB]
 have hcl:(1<=c.Sf/\c.Sf<=4)/\1<=ss.length/\ss.length<=4:=by omega
 have key:(∃e,dW fu c ss=some (none,e)/\e≠0)\/∃h,dW fu c ss=some (some h,0)/\Kr c ss h:=by
  unfold dW;rw [hr,zbs];simp only [vB];rw [d8 (by grind)];obtain ⟨o1,ho1,h1⟩:=Ig (c:=c) (fu:=fu) (by omega) b2 hfu;rw [ho1,zbs];cases o1 with
  |inr z=>obtain ⟨z1,z2⟩:=z;obtain ⟨e1,e2⟩:=h1;exact .inl ⟨z2,by grind,e2⟩
  |inl rs=>
   simp only;obtain ⟨o2,ho2,h2⟩:=F3 (c:=c) (fu:=fu) (by omega) hcl.1.2 hfu;rw [ho2,zbs];cases o2 with
   |inr z=>obtain ⟨z1,z2⟩:=z;obtain ⟨e1,e2⟩:=h2;exact .inl ⟨z2,by grind,e2⟩
   |inl os=>
    simp only;obtain ⟨w0,hw0,_⟩:=WJ.new (H:=1) (K:=0) (l6 1);rw [HV hw0 (by omega) b6 hfu,zbs];obtain ⟨o3,ho3,h3⟩:=Dj hcl.2.2 hf;rw [ho3,zbs];cases o3 with
    |inr z=>obtain ⟨z1,z2⟩:=z;obtain ⟨e1,e2⟩:=h3;exact .inl ⟨z2,by grind,e2⟩
    |inl l=>
     obtain ⟨rfl,h3⟩:=h3;simp only
     have hk:mJ (w64 ((w64 ((w64 (((ss).length:Int)+c.Sa))+c.Sf))+1))=some (some ⟨List.replicate (ss.length+c.Sa.toNat+c.Sf.toNat+1) ⟨0,0⟩,0⟩,0):=by
      grind [qt,mJ,mkLen]
     rw [hk,zbs];exact .inr ⟨_,rfl,⟨b1,b2⟩,⟨b5,b6⟩,hcl.1,by omega,hcl.2,h3,r,os,rs,w0,hw0,r0,r1,r2,r3,r4,r5,h2,h1,rfl⟩
 exact key
open Go.Sx
theorem wG{k n:Int}(h1:1<=n)(h4:n<=4):∃i:Nat,aq k n=some (i:Int)/\(i:Int)<n:=by
 unfold aq;rw [d8 (by simp;omega)];have hz:nz (xS n)=some ():=by grind [nz,wR]
 rw [hz,zbs,wR (x:=n) (by omega) (by omega)];generalize hb:iE .u64 (xS (k*11400714819323198485)) 32=b
 have hb0:0<=b:=by
  have h2:=(xc (k*11400714819323198485)).1;rw [<- hb];show 0<=(xS (k*11400714819323198485)).fdiv (2^(min (Int.toNat 32) IntKind.u64.bits));rw [Int.fdiv_eq_ediv_of_nonneg _ (by grind)];exact Int.ediv_nonneg h2 (Int.le_of_lt (Int.pow_pos (by decide)))
 have e1:=Int.tmod_lt_of_pos b (show 0<n by omega);have e2:=Int.tmod_nonneg n hb0;rw [qt (by omega) (by omega)];exact ⟨(b.tmod n).toNat,by grind,by omega⟩
theorem HX{o:zc}(he:o.Sk=false){r:zt}(hm0:0<=r.Item.SO)(hm1:r.Item.SO<o.maps.length)(hw:r.TB=true\/(0<=r.Item.Op/\r.Item.Op<5/\aq r.Item.Tc o.Te=some o.TA))
  (hb:(o.Se.length+1)*56<=140737488355328):jJ o [r]=some (0,{o with Se:=o.Se++[r]}):=by
 have hf:xN o r=some true:=by
  grind [xN]
 have e1:Go.Sx.idx [r] ((0:Nat):Int)=some r:=rfl;unfold jJ;rw [d8 (by simp [he])];simp only [v8,yz,jN,gK,e1,zbs,hf];obtain ⟨u,hu⟩:=cG (m:=o.Se.length+1) (b:=56) hb
 grind
end Go.Proofs.YtplmgfkghomelaaGreatDoor.KH
