/- Lemmas. -/
import Derived.Test.YtplmgfkghomelaaGreatDoorKEng
set_option linter.unusedVariables false
set_option linter.unusedSimpArgs false
namespace Go.Proofs.YtplmgfkghomelaaGreatDoor
section
section
section
open Go.Sx
variable {H M W n:Nat} {r:zb}
theorem tD(h:fD H M W n r)(k:Int):OK (xQ r.Si [k]) (λq=>(q.1≠0/\q.2=r.Si)\/(q.1=0/\∃l,(l.length=r.Si.Sc.length/\∀(i:Nat) u,l[i]? =some u->u.Sq=0\/r.Si.Sc[i]? =some u)/\q.2=⟨r.Si.SB,l⟩)):=by
 unfold xQ;refine d6 (g8 (Q:=λo=>match o with|.inl _=>0<=k/\k<r.Si.Sc.length|.inr q=>q=(2,r.Si)) (λi _=>i=0\/0<=k/\k<r.Si.Sc.length) (.inl rfl) (λi s again hi hI kk=> ?_) (λs hI=> ?_)) (λo ho=> ?_)
 ·have e:i=0:=by simp at hi;omega
  subst e;unfold fL je;simp only [idx,z8,k8,zbs,Int.natCast_zero,t9,o8,Int.toNat_zero];refine d6 (R:=λo=>o=false->0<=k/\k<r.Si.Sc.length) (d5 (λ_=>b9 (λe=>by cases e)) (λhc=> ?_)) (λo ho=>d5 (λ_=>b9 rfl) (λhf=>kk _ (.inr (ho hf))))
  grind [cut,ip,b9]
 ·grind
 ·cases o with
  |inr q=>exact b9 (.inl ⟨by rw [ho];simp,by rw [ho]⟩)
  |inl u=>
   obtain ⟨x,hx,hx2⟩:=nZ (l:=r.Si.Sc) ho.1 ho.2;refine d6 (g8 (Q:=λo=>match o with|.inl _=>True|.inr q=>q=(41,r.Si)) (λi _=>True) trivial (λi s again hi hI kk=> ?_) (λs hI=>trivial)) (λo ho2=> ?_)
   ·have e:i=0:=by simp at hi;omega
    subst e;unfold fM jf;simp only [idx,z8,zbs,Int.natCast_zero,t9,o8,Int.toNat_zero];rw [show (if 0<=k then r.Si.Sc[k.toNat]? else none)=some x from by grind];simp only [zbs];exact d5 (λ_=>b9 rfl) (λ_=>kk _ trivial)
   ·cases o with
    |inr q=>exact b9 (.inl ⟨by rw [ho2];simp,by rw [ho2]⟩)
    |inl u=>
     refine d6 (g8 (Q:=λt=>∃l,(l.length=r.Si.Sc.length/\∀(i:Nat) u,l[i]? =some u->u.Sq=0\/r.Si.Sc[i]? =some u)/\t=⟨r.Si.SB,l⟩) (λi t=>∃l,(l.length=r.Si.Sc.length/\∀(i:Nat) u,l[i]? =some u->u.Sq=0\/r.Si.Sc[i]? =some u)/\t=⟨r.Si.SB,l⟩) ⟨_,⟨rfl,λ_ _ hu=>.inr hu⟩,rfl⟩ (λi s again hi hI kk=> ?_) (λs hI=>hI)) (λt ht=>b9 (.inr ⟨rfl,ht⟩));have e:i=0:=by simp at hi;omega
     subst e;obtain ⟨l,hl,rfl⟩:=hI;unfold fN;obtain ⟨y,hy,_⟩:=nZ (l:=l) ho.1 (by rw [hl.1];exact ho.2)
     rw [show idx [k] ((0:Nat):Int)=some k from rfl];simp only [zbs,hy];refine kk _ ⟨_,⟨by rw [j5];exact hl.1,λi u hu=> ?_⟩,rfl⟩
     rw [yo] at hu
     grind
theorem Gq(h:fD H M W n r)(hb:n+1<=1000000000){q:Int×zz}(hq:(q.1≠0/\q.2=r.Si)\/(q.1=0/\∃l,(l.length=r.Si.Sc.length/\∀(i:Nat) u,l[i]? =some u->u.Sq=0\/r.Si.Sc[i]? =some u)/\q.2=⟨r.Si.SB,l⟩)):fD H M W (n+1) (Gn r q.2):=by
 have h0:=h.TQ;have h1:=h.last;rcases hq with ⟨_,e⟩|⟨_,l,hl,e⟩
 ·rw [e];exact h.mono (by omega) hb
 ·rw [e];exact BO h hb (by rw [hl.1];exact h.hl) h0 (by simp;omega)
def Gr(r:zb)(c:zE):zb:={r with Sg:=c}
theorem BQ(h:fD H M W n r)(hb:n+1<=1000000000){c:zE}(h1:c.in_.length=W)(h2:r.Sg.Tt<=c.Tt)(h3:c.Tt<=r.Sg.Tt+1)(h4:∀e∈c.in_,0<=e/\e<=c.Tt):fD H M W (n+1) (Gr r c):=
 {h.mono (n':=n+1) (by omega) hb with wk:=h1,TR:=by have:=h.TR;simp [Gr];omega,Tt:=by have:=h.Tt;simp [Gr];omega,Ut:=h4,prog:=λp x hx=>by have:=h.prog p x hx;exact ⟨this.1,this.2.1,this.2.2.1,this.2.2.2.1,this.2.2.2.2.1,this.2.2.2.2.2.1,by simp [Gr];omega⟩}
theorem Ad(h:fD H M W n r)(k:Int):OK (vk r.Sg k) (λq=>(q.2.1≠0/\q.1=0/\q.2.2=r.Sg)\/(q.2.1=0/\q.1≠0/\0<=k/\k<W/\r.Sg.in_[k.toNat]? =some 0/\q.2.2=⟨r.Sg.Tt,r.Sg.in_.set k.toNat r.Sg.Tt⟩)):=by
 unfold vk vj;simp only [zbs];refine d5 (λ_=>b9 (.inl ⟨by simp,rfl,rfl⟩)) (λhc=> ?_);simp only [Bool.not_eq_false',zae,zdq] at hc;obtain ⟨x,hx,hx2⟩:=nZ (l:=r.Sg.in_) hc.1 hc.2;rw [hx];simp only [zbs];refine d5 (λ_=>b9 (.inl ⟨by simp,rfl,rfl⟩)) (λh0=>b9 (.inr ⟨rfl,?_,hc.1,by rw [<- h.wk];exact hc.2,?_,rfl⟩))
 ·have:=h.TR;simp;omega
 grind
theorem IG(h:fD H M W n r)(hb:n+1<=1000000000)(k:Int):fD H M W (n+1) (Gr r ⟨r.Sg.Tt,r.Sg.in_.set k.toNat r.Sg.Tt⟩):=by
 refine BQ h hb (by simp [h.wk]) (t9 _) (by simp;omega) (λe he=> ?_);have h1:=h.TR;rcases p9 he with h2|h2
 ·exact h.Ut e h2
 grind
theorem Ae(h:fD H M W n r)(k:Int):OK (vl r.Sg [k]) (λq=>(q.1≠0/\q.2=r.Sg/\(0<=k->k<W->r.Sg.in_[k.toNat]? =some 0))\/(q.1=0/\0<=k/\k<W/\q.2=⟨r.Sg.Tt,r.Sg.in_.set k.toNat 0⟩)):=by
 have hs:=h.TP;unfold vl;refine d6 (g8 (Q:=λo=>match o with|.inl _=>0<=k/\k<W|.inr q=>q=(2,r.Sg)/\¬ (0<=k/\k<W)) (λi f=>(i=0/\f=λ_=>false)\/(i=1/\0<=k/\k<W)) (.inl ⟨rfl,rfl⟩) (λi s again hi hI kk=> ?_) (λs hI=> ?_)) (λo ho=> ?_)
 ·have e:i=0:=by simp at hi;omega
  subst e;unfold gf vj;rw [show idx [k] ((0:Nat):Int)=some k from rfl];simp only [zbs];by_cases hk:0<=k/\k<W
  ·have ha:ain 4 k=some k.toNat:=by unfold ain;rw [d7 ⟨hk.1,by omega⟩]
   have e1:(!(decide (k>=0)&&decide (k<(r.Sg.in_.length:Int))))=false:=by rw [h.wk];simp;omega
   grind
  ·have e1:(!(decide (k>=0)&&decide (k<(r.Sg.in_.length:Int))))=true:=by rw [h.wk];simp;omega
   grind [b9]
 ·grind
 ·cases o with
  |inr q=>exact b9 (.inl ⟨by rw [ho.1];simp,by rw [ho.1],λh1 h2=>absurd ⟨h1,h2⟩ ho.2⟩)
  |inl u=>
   obtain ⟨x,hx,hx2⟩:=nZ (l:=r.Sg.in_) ho.1 (by rw [h.wk];exact ho.2)
   refine d6 (g8 (Q:=λo=>match o with|.inl _=>True|.inr q=>q=(41,r.Sg)/\x=0) (λi _=>True) trivial (λi s again hi hI kk=> ?_) (λs hI=>trivial)) (λo ho2=> ?_)
   ·have e:i=0:=by simp at hi;omega
    subst e;unfold gh;rw [show idx [k] ((0:Nat):Int)=some k from rfl];simp only [zbs,hx];exact d5 (λhc=>b9 ⟨rfl,by simpa using hc⟩) (λ_=>kk _ trivial)
   ·cases o with
    |inr q=>exact b9 (.inl ⟨by rw [ho2.1];simp,by rw [ho2.1],λ_ _=>by rw [hx2,ho2.2]⟩)
    |inl u=>
     refine d6 (g8 (Q:=λt=>t=⟨r.Sg.Tt,r.Sg.in_.set k.toNat 0⟩) (λi t=>(i=0/\t=r.Sg)\/(i=1/\t=⟨r.Sg.Tt,r.Sg.in_.set k.toNat 0⟩)) (.inl ⟨rfl,rfl⟩) (λi s again hi hI kk=> ?_) (λs hI=> ?_)) (λt ht=>b9 (.inr ⟨rfl,ho.1,ho.2,ht⟩))
     ·grind [gj,idx]
     grind
theorem IH(h:fD H M W n r)(hb:n+1<=1000000000)(k:Int):fD H M W (n+1) (Gr r ⟨r.Sg.Tt,r.Sg.in_.set k.toNat 0⟩):=by
 refine BQ h hb (by simp [h.wk]) (t9 _) (by simp;omega) (λe he=> ?_);have h1:=h.TR;rcases p9 he with h2|h2
 ·exact h.Ut e h2
 grind
theorem Gs(h:fD H M W n r):vA r.Sg=some (r.Sg.Tt+1,⟨r.Sg.Tt+1,r.Sg.in_⟩):=by
 have h1:=h.TR;have h2:=h.Tt;have h3:=h.Ta
 grind [vA,gp]
theorem II(c:zE)(e:Int)(hl:c.in_.length<=140737488355328):vK c e=some (decide (∀x∈c.in_,x=0\/e<=x)):=by
 unfold vK;have hroom:room c.in_.length 1=some ():=by grind [room]
 rw [hroom];simp only [zbs];refine OK.is (d6 (g8 (Q:=λo=>match o with|.inl _=>∀x∈c.in_,x=0\/e<=x|.inr q=>q=false/\¬ ∀x∈c.in_,x=0\/e<=x) (λi _=>∀x∈c.in_.take i,x=0\/e<=x) (by simp) (λi s again hi hI k=> ?_) (λs hI=>by grind)) (λo ho=> ?_))
 ·unfold gQ;refine f9 (i7 hi (λx hx=>d5 (λhc=>b9 ⟨rfl,λhall=> ?_⟩) (λhc=>k _ ?_)))
  ·have:=hall x (zmg hx);simp at hc;omega
  ·intro y hy;rw [x4,hx] at hy
   grind
 grind [b9]
end
open Go.Sx
variable {H M W n:Nat} {r:zb}
theorem K2(h:fD H M W n r)(p:Int):OK (aP r.Si [p]) (λl=>l.length<=4/\(l=[]->∀(i:Nat) u,r.Si.Sc[i]? =some u->0<u.Sq->u.prog≠p)):=by
 have hs:=h.TP;have hl:=h.hl;unfold aP;refine d6 (g8 (Q:=λl=>l.length<=4/\(l=[]->∀(i:Nat) u,r.Si.Sc[i]? =some u->0<u.Sq->u.prog≠p)) (λi l=>l.length<=i/\(l=[]->∀(j:Nat) u,j<i->r.Si.Sc[j]? =some u->0<u.Sq->u.prog≠p)) ⟨by simp,λ_ j u hj=>by omega⟩ (λi s again hi hI k=> ?_) (λs hI=>⟨by omega,λe j u hu=>hI.2 e j u (zes.1 hu).1 hu⟩)) (λl h=>b9 h);unfold gn;refine f9 (i7 hi (λx hx=> ?_));simp only [ip,zbs];refine d6 (R:=λo=>o=false->0<x.Sq->x.prog≠p) (d5 (λ_=>b9 (by simp;exact λz _=>z)) (λ_=>b9 (by grind))) (λo ho=>d5 (λ_=> ?_) (λe=>k _ ⟨by omega,λe2 j u hj hu=> ?_⟩))
 ·refine f9 (OK.hasRoom (by simp;omega) (k _ ⟨by simp;omega,λe=>by simp at e⟩))
 ·by_cases e3:j=i
  ·subst e3;rw [hx] at hu;cases hu;exact ho e
  ·exact hI.2 e2 j u (by omega) hu
def retired(r:zb)(p:Int)(x:zS):zb:=
 {r with Sg:=⟨r.Sg.Tt+1,r.Sg.in_⟩,Sj:=un r.Sj p ⟨x.module,r.Sg.Tt+1⟩,waiting:=r.waiting++[p]}
theorem mz(h:fD H M W n r)(p:Int):OK (qP r p) (λq=>(q.2.1≠0/\q.1=0/\q.2.2=r)\/(q.2.1=0/\q.1=r.Sg.Tt+1/\∃x,jz r.Sj p=some x/\x.SM=0/\(∀(i:Nat) u,r.Si.Sc[i]? =some u->0<u.Sq->u.prog≠p)/\q.2.2=retired r p x)):=by
 unfold qP;cases hg:jz r.Sj p with
 |none=>exact o5 rfl (b9 (.inl ⟨by simp,rfl,rfl⟩))
 |some x=>
  refine j7 rfl ?_;simp only [zbs];refine d5 (λ_=>b9 (.inl ⟨by simp,rfl,rfl⟩)) (λh0=> ?_);refine d6 (K2 h p) (λl hwl=>d5 (λ_=>b9 (.inl ⟨by simp,rfl,rfl⟩)) (λhl0=> ?_));rw [Gs h];simp only [zbs];have hw:=h.wlen;have hl:=h.len;refine f9 (OK.hasRoom (by simp;omega) (b9 (.inr ⟨rfl,rfl,x,rfl,?_,hwl.2 (by cases l<;>simp at hl0 |-),rfl⟩)));have:=(h.prog p x hg).2.2.2.2.2.1;simp at h0;omega
theorem D3(h:fD H M W n r)(hb:n+1<=1000000000){p:Int}{x:zS}(hx:jz r.Sj p=some x)(h0:x.SM=0):fD H M W (n+1) (retired r p x):=by
 have hn:=h.Tt;have hn1:=h.TR
 have hget:∀q,jz (retired r p x).Sj q=if p=q then some ⟨x.module,r.Sg.Tt+1⟩ else jz r.Sj q:=by
  grind [retired,BN]
 refine {h.mono (n':=n+1) (by omega) hb with TR:=by grind [retired],Tt:=by grind [retired],Ut:=λe he=> ?_,Tc:= ?_,len:= ?_,prog:= ?_,held:= ?_,Uz:= ?_,TY:= ?_}
 ·have:=h.Ut e he
  grind [retired]
 ·unfold Fm;rw [show (retired r p x).Sj.map (·.1)=r.Sj.map (·.1) from Fo _ _ _];exact h.Tc
 ·rw [show (retired r p x).Sj.length=r.Sj.length from KX _ _ _];exact h.len
 ·intro q y hy;rw [hget] at hy;split at hy
  ·rename_i e
   subst e;cases hy;have:=h.prog p x hx
   grind [retired]
  ·have:=h.prog q y hy
   grind [retired]
 ·show r.Td.held=_;rw [h.held];exact (IE (λ(z:zS)=>z.module.Maps) r.Sj p ⟨x.module,r.Sg.Tt+1⟩ x hx rfl).symm
 ·refine j9.2 ⟨h.Uz,by simp,λa ha b hb e=> ?_⟩;simp at hb;subst hb;subst e;obtain ⟨y,hy,hy0⟩:=(h.TY a).1 ha
  grind
 ·intro q;rw [hget];show q∈r.waiting++[p]↔_;simp only [g9,i6];by_cases e:p=q
  ·subst e;simp;omega
  ·have e2:¬ q=p:=λe2=>e e2.symm
   simp only [e2,or_false,d8 e];exact h.TY q
def tH(r:zb)(p:Int):Bool:=match jz r.Sj p with
 |some x=>decide (∀e∈r.Sg.in_,e=0\/x.SM<=e)
 |none=>false
def lL(P:Int->Bool)(k:Int):List Int->List Int
 |[]=>[]
 |x::l=>if 0<k/\P x=true then x::lL P (k-1) l else lL P k l
theorem tI(P:Int->Bool):∀(l:List Int)(k:Int),(lL P k l).Sublist l
 |[],_=>List.Sublist.refl _
 |x::l,k=>by
  unfold lL;split
  ·exact (tI P l _).cons_cons x
  ·exact (tI P l _).cons x
theorem D4(P:Int->Bool):∀(l:List Int)(k:Int),∀x∈lL P k l,P x=true
 |[],_=>λx hx=>by cases hx
 |y::l,k=>λx hx=>by
  unfold lL at hx;split at hx
  ·rename_i hc
   rcases j4.1 hx with rfl|hx
   ·exact hc.2
   ·exact D4 P l _ x hx
  ·exact D4 P l _ x hx
theorem pN(P:Int->Bool)(x:Int):∀(l:List Int)(k:Int),lL P k (l++[x])=lL P k l++(if ((lL P k l).length:Int)<k/\P x=true then [x] else [])
 |[],k=>by
  grind [lL]
 |y::l,k=>by
  simp only [y8,lL];split
  ·rename_i hc
   rw [pN P x l (k-1)]
   grind
  ·exact pN P x l k
def iF(r:zb)(most:Int):List Int:=lL (tH r) most r.waiting
theorem IJ(h:fD H M W n r)(most:Int):OK (jL (vx r most) (λ(s:List Int)=>s) r.waiting.length 0 []) (λl=>l=iF r most):=by
 have hw:=h.wlen;have hl:=h.len;refine g8 (λi s=>s=lL (tH r) most (r.waiting.take i)/\s.length<=i) ⟨by simp [lL],by simp⟩ (λi s again hi hI k=> ?_) (λs hI=> ?_)
 ·obtain ⟨rfl,hsl⟩:=hI;unfold vx;refine f9 (i7 hi (λx hx=> ?_));obtain ⟨y,hy,_⟩:=(h.TY x).1 (zmg hx);have hs:tH r x=decide (∀e∈r.Sg.in_,e=0\/y.SM<=e):=by grind [tH]
  have e1:lL (tH r) most (r.waiting.take (i+1))=lL (tH r) most (r.waiting.take i)++(if ((lL (tH r) most (r.waiting.take i)).length:Int)<most/\tH r x=true then [x] else []):=by
   rw [eI hx,pN]
  simp only [hy,zbs,II _ _ (show r.Sg.in_.length<=140737488355328 by have h1:=h.wk;have h2:=h.TP;omega)];refine d6 (R:=λo=>o=decide (((lL (tH r) most (r.waiting.take i)).length:Int)<most/\tH r x=true)) (d5 (λhc=>b9 ?_) (λhc=>b9 ?_)) (λo ho=> ?_)
  ·grind
  ·grind
  ·subst ho;refine d5 (λhc=>f9 (OK.hasRoom (by simp;omega) (k _ ?_))) (λhc=>k _ ?_)
   ·grind
   grind
 ·rw [List.take_length] at hI;exact hI.1
theorem tJ(l:List Int)(x:Int):jh x l=some (decide (x∈l)):=by
 grind [jh,ip]
theorem K3(g:List Int)(p0:List Int)(hp:p0.length<=16)(r11:Nat)(hr:r11<p0.length)(hx:∃x,p0[r11]? =some x/\x∈g)(hpre:∀j,j<r11->∀x,p0[j]? =some x->x∉g):
  OK (loop (xp g) 2199023255552 (p0,(r11:Int),((r11:Int)+1))) (λo=>o.1.length=p0.length/\∃k:Nat,o.2=(k:Int)/\k<=p0.length/\o.1.take k=p0.filter (λx=>decide (x∉g))):=by
 refine OK.rounds (λs=>s.1.length=p0.length/\∃k j:Nat,s.2.1=(k:Int)/\s.2.2=(j:Int)/\k<j/\j<=p0.length/\s.1.take k=(p0.take j).filter (λx=>decide (x∉g))/\s.1.drop j=p0.drop j) (λs=>p0.length-s.2.2.toNat) ?_ 2199023255552 _ ?_ (by simp;omega)
 ·rintro ⟨s,k0,j0⟩ again ⟨h1,k,j,e1,e2,h3,h4,h5,h6⟩ kk;simp only at e1 e2 h1 h5 h6;subst e1;subst e2;unfold xp;simp only [h1];by_cases hj:j<p0.length
  ·refine o5 (by simp;omega) ?_;refine f9 (i7 (by omega) (λx hx=> ?_))
   have hxp:p0[j]? =some x:=by
    have e:=congrArg (λl=>l[0]?) h6
    grind
   rw [tJ];simp only [zbs];have hw:w64 ((j:Int)+1)=((j+1:Nat):Int):=by grind [gp]
   have hwk:w64 ((k:Int)+1)=((k+1:Nat):Int):=by grind [gp]
   have hd:s.drop (j+1)=p0.drop (j+1):=by
    have e:=congrArg (List.drop 1) h6
    simpa [yt] using e
   have htk:p0.take (j+1)=p0.take j++[x]:=eI hxp;rw [hw];refine d5 (λhc=> ?_) (λhc=> ?_)
   ·have hng:x∉g:=by simpa using hc
    refine f9 (i7 (by omega) (λy hy=> ?_));rw [hwk];refine kk _ ⟨by simpa using h1,k+1,j+1,rfl,rfl,by omega,by omega,?_,?_⟩ (by simp;omega)
    ·simp only [k8];rw [htk,z3,<- h5];have:(s.set k x)[k]? =some x:=by grind
     rw [x4,this];simp only [Option.toList_some,List.filter_cons,hng,not_false_eq_true,decide_true,o8,List.filter_nil]
     congr 1
     exact List.take_set_of_le (by omega)
    ·simp only [k8];rw [List.drop_set_of_lt (by omega)];exact hd
   ·have hg:x∈g:=by simpa using hc
    refine kk _ ⟨h1,k,j+1,rfl,rfl,by omega,by omega,?_,hd⟩ (by simp;omega)
    grind
  ·refine j7 (by simp;omega) (b9 ⟨h1,k,rfl,by omega,?_⟩)
   grind
 ·obtain ⟨x,hx,hxg⟩:=hx;refine ⟨rfl,r11,r11+1,rfl,by simp,by omega,by omega,?_,rfl⟩;simp only;rw [eI hx,z3]
  have e1:(p0.take r11).filter (λx=>decide (x∉g))=p0.take r11:=by
   refine List.filter_eq_self.2 (λy hy=> ?_);obtain ⟨j,hj,e⟩:=t8.1 hy
   grind
  rw [e1];simp [hxg]
theorem tq(p0 g:List Int)(hp:p0.length<=16):jp 2199023255552 p0 g=some (p0.filter (λx=>decide (x∉g))):=by
 refine OK.is ?_;unfold jp
 have hix:OK (jy p0 g) (λi=>(i= -1/\∀x∈p0,x∉g)\/∃j:Nat,i=(j:Int)/\j<p0.length/\(∃x,p0[j]? =some x/\x∈g)/\∀q,q<j->∀x,p0[q]? =some x->x∉g):=by
  unfold jy;refine d6 (g8 (Q:=λo=>match o with|.inl _=>∀x∈p0,x∉g|.inr i=>∃j:Nat,i=(j:Int)/\j<p0.length/\(∃x,p0[j]? =some x/\x∈g)/\∀q,q<j->∀x,p0[q]? =some x->x∉g) (λi _=>∀q,q<i->∀x,p0[q]? =some x->x∉g) (λq hq=>by omega) (λi s again hi hI k=> ?_) (λs hI=> ?_)) (λo ho=> ?_)
  ·unfold aN;refine f9 (i7 hi (λx hx=> ?_));rw [tJ];simp only [zbs];refine d5 (λhc=>b9 ⟨i,rfl,hi,⟨x,hx,by simpa using hc⟩,hI⟩) (λhc=>k _ (λq hq y hy=> ?_))
   grind
  ·intro x hx;obtain ⟨j,hj,e⟩:=t8.1 hx;exact hI j hj x (by grind)
  grind [b9]
 refine d6 hix (λi hi=> ?_);rcases hi with ⟨rfl,hall⟩|⟨j,rfl,hj,hx,hpre⟩
 ·refine o5 (by simp) (b9 ?_);exact (List.filter_eq_self.2 (λx hx=>by grind)).symm
 ·refine j7 (by simp) ?_
  grind [gp,d6,K3,cut,b9]
end
open Go.Sx
variable {H M W n:Nat} {r:zb}
theorem Fm.mdels{α:Type}{m:List (Int×α)}(h:Fm m)(g:List Int):Fm (mdels m g):=by
 induction g generalizing m with
 |nil=>exact h
 |cons x g ih=>exact ih (h.mdel x)
theorem Gt{α:Type}{m:List (Int×α)}(h:Fm m)(g:List Int)(q:Int):jz (mdels m g) q=if q∈g then none else jz m q:=by
 induction g generalizing m with
 |nil=>simp [mdels]
 |cons x g ih=>
  simp only [mdels];rw [ih (h.mdel x),ID h]
  grind
theorem IK{α β:Type}(f:α->β)(g:List Int)(m:List (Int×α)):(mdels m g).map (λp=>(p.1,f p.2))=mdels (m.map (λp=>(p.1,f p.2))) g:=by
 induction g generalizing m with
 |nil=>rfl
 |cons x g ih=>simp only [mdels];rw [ih,KY]
def settled(r:zb)(g:List Int):zb:=
 {r with Td:=⟨r.Td.maps,mdels r.Td.held g⟩,Sj:=mdels r.Sj g,waiting:=r.waiting.filter (λx=>decide (x∉g))}
theorem K4(p:zW)(x:Int):∃e,bM p [x]=some (e,⟨p.maps,mdel p.held x⟩):=by
 rw [NM,d7 (by simp)];by_cases h:(jz p.held x).isSome=true
 ·rw [d7 (by simpa using h)];exact ⟨_,rfl⟩
 ·rw [d8 (by simpa using h)]
  have:jz p.held x=none:=by cases hh:jz p.held x with
   |none=>rfl
   |some v=>rw [hh] at h;simp at h
  rw [ph this];exact ⟨_,rfl⟩
theorem IL(r:zb)(g:List Int):jL (vy g) (λ(s:zb)=>s) g.length 0 r=some {r with Td:=⟨r.Td.maps,mdels r.Td.held g⟩,Sj:=mdels r.Sj g}:=by
 refine OK.is (g8 (λi s=>s={r with Td:=⟨r.Td.maps,mdels r.Td.held (g.take i)⟩,Sj:=mdels r.Sj (g.take i)}) rfl (λi s again hi hI k=> ?_) (λs hI=> ?_))
 ·subst hI;unfold vy;refine f9 (i7 hi (λx hx=> ?_));obtain ⟨e,he⟩:=K4 ⟨r.Td.maps,mdels r.Td.held (g.take i)⟩ x
  grind [eI,wa]
 grind
theorem K5(r:zb)(most:Int):(iF r most).Sublist r.waiting:=tI _ _ _
theorem IM(h:fD H M W n r)(most:Int):jZ 2199023255552 r most=some (iF r most,settled r (iF r most)):=by
 refine OK.is ?_;unfold jZ;refine d6 (IJ h most) (λg hg=> ?_);rw [IL];simp only [zbs];have hw:=h.wlen;have hl:=h.len;rw [tq _ _ (by omega)];simp only [zbs];exact b9 (by rw [hg];rfl)
theorem NQ(h:fD H M W n r){most p:Int}(hp:p∈iF r most):∃x,jz r.Sj p=some x/\0<x.SM/\∀e∈r.Sg.in_,e=0\/x.SM<=e:=by
 obtain ⟨x,hx,h0⟩:=(h.TY p).1 ((K5 r most).subset hp);refine ⟨x,hx,h0,?_⟩;have:=D4 _ _ _ p hp;unfold tH at this;rw [hx] at this
 simpa using this
theorem oa(h:fD H M W n r)(g:List Int)(q:Int):jz (settled r g).Sj q=if q∈g then none else jz r.Sj q:=Gt h.Tc g q
theorem D5(h:fD H M W n r)(hb:n+1<=1000000000)(most:Int):fD H M W (n+1) (settled r (iF r most)):=by
 have h':=h.mono (n':=n+1) (by omega) hb;refine {Sc:=h'.Sc,hl:=h'.hl,maps:=h'.maps,Ub:=h'.Ub,wk:=h'.wk,TP:=h'.TP,Ta:=hb,TT:=h'.TT,given:=h'.given,TQ:=h'.TQ,last:=h'.last,TR:=h'.TR,Tt:=h'.Tt,Ut:=h'.Ut,Tc:=h.Tc.mdels _,len:= ?_,prog:=λp x hx=> ?_,held:= ?_,Uz:=h.Uz.sublist List.filter_sublist,TY:=λp=> ?_}
 ·have:=IB (iF r most) r.Sj;have h2:=h.len
  grind [settled]
 ·rw [oa h] at hx;split at hx
  ·cases hx
  ·exact h.prog p x hx
 ·simp only [settled];rw [h.held];exact (IK (λ(z:zS)=>z.module.Maps) _ _).symm
 ·rw [oa h];simp only [settled,List.mem_filter,zdq,h.TY p]
  grind
theorem BR(h:fD H M W n r)(p:Int):qO r p=some (match jz r.Sj p with|some x=>(x.module,true)|none=>(⟨[],[]⟩,false)):=by
 unfold qO;cases hg:jz r.Sj p with
 |none=>rfl
 |some x=>
  have hx:=h.prog p x hg;have h4:x.module.Maps.length<=4:=hx.2.2.1.2.2;have h64:=hx.2.2.2.2.1;rw [d8 (by simp)];simp only [zbs];rw [Fl _ (by omega)];unfold zR room;rw [d7 (by simp;omega)];rfl
end
open Go.Sx
theorem Pst.bind2{α β:Type}{o:Option α}{f:α->Option β}{R:α->Prop}{Q:β->Prop}(h0:Pst o R)(h:∀x,R x->Pst (f x) Q):Pst (o.bind f) Q:=λr e=>by
 obtain ⟨x,h1,hx⟩:=zM e;exact h x (h0 x h1) r hx
theorem o7:type_of% @Pst.bind2:=Pst.bind2
theorem Li{fu:Nat}{M:zr}{S:zl}{r:qS×EM}(h:tv fu (pk M S)=some r):∃M1 S1,qJ fu M S=some (r.1,M1,S1)/\r.2=pk M1 S1:=by
 rw [NE] at h;obtain ⟨⟨a,M1,S1⟩,h1,rfl⟩:=yw.1 h;exact ⟨M1,S1,h1,rfl⟩
theorem GB{M:zr}{S:zl}{c:zk}{r:Int×EM}(h:mw (pk M S) c=some r):∃M1,jE M c S=some (r.1,M1)/\r.2=pk M1 S:=by
 rw [Iv] at h;obtain ⟨⟨e,M1⟩,h1,rfl⟩:=yw.1 h;exact ⟨M1,h1,rfl⟩
inductive P0:zr->zl->List zk->List qS->Nat->Prop
 |stop {M M1:zr} {S S1:zl} {a:qS} {rs:List zk}:qJ 2199023255552 M S=some (a,M1,S1)->a.RS=4->M1.steps=w64 (M.steps+1)->P0 M S rs [a] 0
 | ask {M M1 M2 : zr} {S S1 : zl} {a : qS} {c : zk} {rs : List zk} {l : List qS} {n : Nat} : qJ 2199023255552 M S = some (a, M1, S1) -> a.RS = 2 -> jE M1 c S1 = some (0, M2) ->
   M2.steps=w64 (M.steps+1)->P0 M2 S1 rs l n->P0 M S (c::rs) (a::l) (n+1)
 |go {M M1:zr} {S S1:zl} {a:qS} {rs:List zk} {l:List qS} {n:Nat}:qJ 2199023255552 M S=some (a,M1,S1)->a.RS=1\/a.RS=3->M1.steps=w64 (M.steps+1)->P0 M1 S1 rs l n->P0 M S rs (a::l) n
def Qp(m:zD)(E:qQ):zr:=⟨E,m,λ_=>0,λ_=>0,0,0,0⟩
theorem I5{m:zD}(h1:m.Maps.length*8<=140737488355328)(h2:m.Code.length*40<=140737488355328){o:Option zj}(h:jX 2199023255552 m=some (o,0,0))(E:qQ)(S:zl):
  fg 2199023255552 m E S=some (some (Qp m E),0,⟨⟨λ_=>0⟩,S.Sz⟩):=by
 unfold fg;rw [wI h];simp only [zbs];rw [d8 (by simp)];simp only [bW,Ng h1,Nh h2,zbs];rfl
theorem Lj{m:zD}{o:Option zj}{p e:Int}(h:jX 2199023255552 m=some (o,p,e))(he:e≠0)(E:qQ)(S:zl):
  fg 2199023255552 m E S=some (none,e,S):=by
 grind [fg,wI]
def U5(t:qz):Prop:=u64 t.TV/\u64 t.Tl/\u64 t.TD/\u64 t.Calls/\u64 t.Sum
def wi(t u:qz):qz:=⟨vc (t.TV+u.TV),vc (t.Tl+u.Tl),vc (t.TD+u.TD),vc (t.Calls+u.Calls),vc (t.Sum+u.Sum)⟩
theorem Ll(t u:qz):U5 (wi t u):=⟨xe _,xe _,xe _,xe _,xe _⟩
theorem Ru{x:Int}(h:u64 x):vc (0+x)=x:=by rw [Int.zero_add,ve h.1 h.2]
theorem P3{t u:qz}(h:U5 t):oC [t,u]=some (wi t u):=by
 obtain ⟨a,b,c,d,e⟩:=h;show some (wi (wi ⟨0,0,0,0,0⟩ t) u)=_
 grind [wi,Ru]
theorem FC{h:Int}(h0:0<=h)(h1:h<4):fa h=some true:=by
 grind [fa]
theorem Q4{h:Int}(h0:0<=h)(h1:h<4):ain 4 h=some h.toNat:=by grind [ain]
theorem P4{st:zX}{h:Int}(h0:0<=h)(h1:h<4)(hu:U5 (st.Sc h.toNat))(s c v:Int):cB st h s c v=some (0,⟨aset st.Sc h.toNat (wi (st.Sc h.toNat) ⟨1,0,s,c,v⟩)⟩):=by
 grind [cB,FC,Q4,P3]
def FD(t:qz):qz:={t with Tl:=vc (t.Tl+1)}
theorem I6{st:zX}{h:Int}(h0:0<=h)(h1:h<4):vU st [h]=some (0,⟨aset st.Sc h.toNat (FD (st.Sc h.toNat))⟩):=by
 unfold vU
 have e1:jL (vS st [h]) (λ(s127:Unit)=>(.inl ())) ([h]).length 0 ()=some (.inl ()):=by
  show vS st [h] 0 _ ()=_;unfold vS;have:idx [h] ((0:Nat):Int)=some h:=rfl;rw [this];simp only [zbs,FC h0 h1];rfl
 have e2:jL (vT [h]) (λ(s284:zX)=>s284) ([h]).length 0 st=some ⟨aset st.Sc h.toNat (FD (st.Sc h.toNat))⟩:=by
  show vT [h] 0 _ st=_;unfold vT;have:idx [h] ((0:Nat):Int)=some h:=rfl;rw [this];simp only [zbs,Q4 h0 h1];rfl
 grind
def Qq(st:zX):Prop:=∀i,U5 (st.Sc i)
theorem Qq.aset{st:zX}(h:Qq st)(k:Nat){t:qz}(ht:U5 t):Qq ⟨Go.Sx.aset st.Sc k t⟩:=by
 intro i;show U5 (Go.Sx.aset st.Sc k t i);unfold Go.Sx.aset;split
 ·exact ht
 ·exact h i
theorem I7{t:qz}(h:U5 t):U5 (FD t):=⟨h.1,xe _,h.2.2.1,h.2.2.2.1,h.2.2.2.2⟩
end Go.Proofs.YtplmgfkghomelaaGreatDoor
namespace Go.Proofs.YtplmgfkghomelaaGreatDoor.KH
open Go.Sx
theorem E9{σ ρ:Type}{body:Nat->(σ->Option ρ)->σ->Option ρ}{out:σ->ρ}{I:σ->Prop}{Q:ρ->Prop}
  (h:∀i s (again:σ->Option ρ),I s->(∀s',I s'->Pst (again s') Q)->Pst (body i again s) Q) (ho:∀s,I s->Q (out s)):
  ∀(n i:Nat)(s:σ),I s->Pst (jL body out n i s) Q
 |0,i,s,hi=>i4 (ho s hi)
 |n+1,i,s,hi=>h i s _ hi λs' hs=>E9 h ho n (i+1) s' hs
def VM(l:List zp):Prop:=∀p∈l,u64 p.SJ
theorem z64:u64 0:=⟨by decide,by decide⟩
theorem VM.at{l:List zp}(h:VM l){t:Int}:Pst (Go.Sx.idx l t) (λp=>u64 p.SJ):=λp e=>by
 unfold Go.Sx.idx at e;split at e
 ·exact h p (zmg e)
 ·cases e
theorem oT{fu:Nat}{b:qk}(h:VM b.RU){op k x:Int}(hx:u64 x):Pst (jP fu b op k x) (λr=>VM r.2.RU/\u64 r.1.SJ):=by
 unfold jP;refine k6 (i4 ⟨h,z64⟩) (i9 λf=> ?_);refine o7 (R:=λo=>u64 o.SJ) (k6 (o7 h.at λp hp=>i4 hp) (i4 z64)) λo ho=> ?_
 refine k6 (k6 (o7 (R:=VM) (λl e p hp=> ?_) λl hl=>i4 ⟨hl,ho⟩) (i4 ⟨h,ho⟩)) ?_
 ·obtain ⟨i,j,_,_,_,_,rfl⟩:=oH e;rcases g9.1 hp with hp|hp
  ·exact h p (z9 hp)
  ·exact h p (List.mem_of_mem_drop hp)
 refine i9 λg=>k6 (k6 (i4 ⟨h,z64⟩) ?_) (i4 ⟨h,ho⟩)
 refine o7 (R:=λb:qk=>VM b.RU) (k6 (o7 (R:=λq=>VM q.1) (λq e p hp=> ?_) λq hq=>i4 hq) (i4 h)) λb2 hb2=> ?_
 ·obtain ⟨i,_,_,_,rfl⟩:=Be e;rcases g9.1 hp with hp|hp
  ·rcases g9.1 hp with hp|hp
   ·exact h p (z9 hp)
   ·rw [i6.1 hp];exact z64
  ·exact h p (List.mem_of_mem_drop hp)
 refine o7 (R:=λq:Int×zk=>u64 q.1/\u64 q.2.SJ) (k6 (i4 ⟨xe _,xe _⟩) (i4 ⟨hx,ho⟩)) λq hq=> ?_
 refine i9 λy=>i4 ⟨λp hp=> ?_,hq.2⟩
 rcases p9 hp with hp|rfl
 ·exact hb2 p hp
 ·exact hq.1
theorem pK{fu:Nat}{a:qw}{k:Int}:Pst (xL fu a k) (λr=>r.Th=a.Th):=by
 unfold xL;exact i9 λ_=>i4 rfl
theorem DS{fu:Nat}{a:qw}{k:Int}:Pst (vd fu a k) (λr=>r.Th=a.Th):=by
 unfold vd;exact o7 pK λr hr=>i9 λ_=>i4 hr
theorem KO{fu:Nat}{a:qw}(h:VM a.Th.RU){op k x:Int}(hx:u64 x):Pst (ek fu a op k x) (λr=>VM r.2.Th.RU/\u64 r.1.SJ):=by
 unfold ek;refine o7 (oT h hx) λr hr=> ?_
 refine o7 (R:=λo:qw×zk=>VM o.1.Th.RU/\u64 o.2.SJ) (k6 ?_ (i4 hr)) λo ho=> ?_
 ·refine o7 (R:=λe:qw×zk=>VM e.1.Th.RU) ?_ λe he=>o7 (oT he hx) λq hq=>i4 hq
  unfold cU;refine i9 λy=>o7 (oT (b:=r.2) (op:=3) (k:=y) hr.1 z64) λs hs=> ?_
  exact o7 pK λd hd=>i4 (by show VM d.Th.RU;rw [hd];exact hs.1)
 ·refine k6 (i4 ⟨ho.1,ho.2⟩) (i9 λg=>k6 (o7 DS λd hd=>i4 ⟨by show VM d.Th.RU;rw [hd];exact ho.1,ho.2⟩) (k6 (o7 pK λd hd=>i4 ⟨by show VM d.Th.RU;rw [hd];exact ho.1,ho.2⟩) (i4 ⟨ho.1,ho.2⟩)))
def shv(s:qi):List zp:=match s with
 |.inl b=>b.RU
 |.inr a=>a.Th.RU
theorem Ge{fu:Nat}{s:qi}(h:VM (shv s)){op k x:Int}(hx:u64 x):Pst (jG fu s op k x) (λr=>VM (shv r.2)/\u64 r.1.SJ):=by
 cases s with
 |inl b=>unfold jG;exact o7 (oT h hx) λr hr=>i4 hr
 |inr a=>unfold jG;exact o7 (KO h hx) λr hr=>i4 hr
structure Gf (o:zc):Prop where
 maps:∀s∈o.maps,VM (shv s)
 RW:∀r∈o.RW,u64 r.Item.SJ
theorem BA{fu:Nat}{o:zc}(h:Gf o):Pst (jJ fu o) (λq=>u64 q.1.SD.SJ/\∀s∈q.2.2.maps,VM (shv s)):=by
 unfold jJ;refine k6 (i4 ⟨z64,h.maps⟩) ?_;refine o7 (R:=λx=>u64 x.Item.SJ) (λx e=> ?_) λx hx=>i9 λys=>k6 (i9 λs=>i9 λps=>i4 ⟨z64,h.maps⟩) ?_
 ·unfold Go.Sx.idx at e;split at e
  ·exact h.RW x (zmg e)
  ·cases e
 refine o7 (R:=λs=>VM (shv s)) (λs e=> ?_) λs hs=>o7 (Ge hs hx) λq hq=>i4 ⟨hq.2,λt ht=> ?_⟩
 ·unfold Go.Sx.idx at e;split at e
  ·exact h.maps s (zmg e)
  ·cases e
 ·rcases p9 ht with ht|rfl
  ·exact h.maps t ht
  ·exact hq.1
theorem DT{d:jg}{s:qi}(h:eD d=some (some s,0)):shv s=[]:=by
 unfold eD at h;split at h
 ·rcases se d.Uk with e|⟨b,e,_,hp⟩
  ·rw [e] at h;cases h
  ·rw [e] at h;simp [aa] at h;subst h;exact hp
 ·split at h
  ·unfold pD at h;rcases se d.Uk with e|⟨b,e,_,hp⟩
   ·rw [e] at h;simp [aa] at h
   ·rw [e] at h;simp [aa] at h;subst h;exact hp
  ·cases h
theorem DU{s n:Int}{ds:List jg}{o:zc}{e:Int}(h:cg s n ds=some (some o,e)):Gf o:=by
 have:Pst (cg s n ds) (λq=>∀o,q.1=some o->Gf o):=by
  unfold cg;refine k6 (i4 λo e=>by cases e) ?_;refine o7 (R:=λq=>match q with|.inl o=>Gf o|.inr z=>z.1=none) (λq e=> ?_) λq hq=> ?_
  ·exact E9 (I:=λo=>Gf o) (Q:=λq=>match q with|.inl o=>Gf o|.inr z=>z.1=none) (λi o again ho ha=>by
    unfold iB;refine i9 λd=> ?_
    intro q hq;rcases Bx d with ⟨e,he,hne⟩|⟨m,hm,_⟩
    ·rw [he] at hq;simp only [zbs,aa] at hq;split at hq
     ·cases hq;rfl
     ·cases hq
    ·have hm2:=DT hm;rw [hm] at hq;simp only [zbs,aa] at hq;rw [d8 (by simp)] at hq;revert q;refine i9 λ_=>ha _ ⟨λt ht=> ?_,ho.RW⟩
     rcases g9.1 ht with ht|ht
     ·exact ho.maps t ht
     ·rw [i6.1 ht,hm2];exact λp hp=>by cases hp) (λo ho=>ho) _ _ _ ⟨λt ht=>(by cases ht),λr hr=>(by cases hr)⟩ q e
  ·cases q with
   |inl o=>exact i4 λo2 e=>by cases e;exact hq
   |inr z=>exact i4 λo2 e=>by rw [show z.1=none from hq] at e;cases e
 exact this _ h o rfl
open Go.Sx
theorem Gg{c:zN}{fu:Nat}(h0:0<=c.RZ)(h4:c.RZ<=4)(hfu:10<fu):
  ∃o,loop (nK c) fu ([],0)=some o/\match o with
   |.inl os=>(os.length:Int)=c.RZ/\∀(i:Nat)(x:zc),os[i]? =some x->iQ x/\x.RW=[]/\x.RY=false/\x.SX=c.RZ/\x.Tr=i/\x.maps.length=c.Maps.length/\Gf x
   |.inr z=>z.1=none/\z.2≠0:=by
 refine lu (λm s=>(s.1.length:Int)=s.2/\s.2<=c.RZ/\s.2+m=c.RZ/\∀(i:Nat)(x:zc),s.1[i]? =some x->iQ x/\x.RW=[]/\x.RY=false/\x.SX=c.RZ/\x.Tr=i/\(x.maps.length=c.Maps.length/\Gf x)) _ (λm s again hI ha=> ?_) fu c.RZ.toNat ([],0) (by omega) ⟨rfl,h0,by grind,λi x hx=>by simp at hx⟩;obtain ⟨rs,i⟩:=s;obtain ⟨a1,a2,a3,a4⟩:=hI;have a1:(rs.length:Int)=i:=a1;have a2:i<=c.RZ:=a2;have a3:i+m=c.RZ:=a3;unfold nK;show ∃r,(if decide (i<c.RZ)=true then _ else _)=some r/\_;by_cases hc:i<c.RZ
 ·rw [d7 (by simpa using hc)];rcases Bz i c.RZ c.Maps with ⟨e,hn,hne⟩|⟨r,hn,hr,b1,b2,b3,b4,b5,_⟩
  ·exact ⟨.inr (none,e),by grind [aa],rfl,hne⟩
  ·rw [show cg (rs,i).2 c.RZ c.Maps=_ from hn,zbs];simp only [aa];rw [d8 (by simp)];obtain ⟨u,hu⟩:=cY (m:=rs.length+[r].length) (b:=8) (by grind);rw [hu,zbs,qp (by omega) (by omega)];refine ha (m-1) _ (by omega) ⟨?_,?_,?_,λj x hx=> ?_⟩
   ·grind
   ·grind
   ·grind
   ·have hx:(rs++[r])[j]? =some x:=hx;rcases y7 j rs.length with hj|hj
    ·grind
    ·rw [v8 hj] at hx
     have hj2:j-rs.length=0:=by
      grind
     grind [DU]
 ·rw [d8 (by simpa using hc)]
  grind
end Go.Proofs.YtplmgfkghomelaaGreatDoor.KH
namespace Go.Proofs.YtplmgfkghomelaaGreatDoor
open Go.Sx
def PK(K:Nat)(w:zm)(st:Int):Prop:=∃m j M p i,w.SC.TH=some M/\Bf m j/\(∀x∈m.Maps,x<(K:Int))/\Run m j (pk M w.SK) p/\M.state=st/\m.Code[p]? =some i/\(st=1->i.Op=21/\i.SN<=4)
structure WJ (H K:Nat) (w:zm):Prop where
 told:Qq w.Tq
 hook:0<=w.SC.hook/\w.SC.hook<H
 ev:u64 w.SC.SI.Sl.A/\u64 w.SC.SI.Sl.B
 is:w.RX=0\/w.RX=1\/(w.RX=2/\PK K w 0)\/(w.RX=3/\PK K w 1)
def ni(w:zm):Int:=match w.SC.TH with
 |none=>0
 |some M=>pot M.module.Code M.LE M.Su.toNat M.module.Code.length
theorem kB{m:zD}{j:zj}{w:zm}{M:zr}{p:Nat}(hM:w.SC.TH=some M)(h:Run m j (pk M w.SK) p):ni w=pot m.Code M.LE p m.Code.length:=by
 have h1:M.module=m:=h.TW;have h2:M.Su=p:=h.Su
 grind [ni,pot]
theorem uz5:U5 ⟨0,0,0,0,0⟩:=⟨⟨by decide,by decide⟩,⟨by decide,by decide⟩,⟨by decide,by decide⟩,⟨by decide,by decide⟩,by decide,by decide⟩
theorem KQ:u64 0/\u64 0:=⟨⟨by decide,by decide⟩,by decide,by decide⟩
theorem WJ.new{H K:Nat}(hH:1<=H):∃w,eY=some w/\WJ H K w/\w.RX=0/\w.SC.hook=0:=by
 refine ⟨_,rfl,⟨λi=>uz5,⟨t9 0,by grind⟩,KQ,.inl rfl⟩,rfl,rfl⟩
theorem PL{H K:Nat}{w:zm}(h:WJ H K w)(hH:H<=4)(h0:w.RX=0){k:Int}(hk0:0<=k)(hk:k<H){q:zZ}(hq:u64 q.Sl.A/\u64 q.Sl.B):
  vR w k q=some (0,{w with RX:=1,SC:=⟨k,q,0,0,0,none⟩})/\WJ H K {w with RX:=1,SC:=⟨k,q,0,0,0,none⟩}:=by
 refine ⟨?_,⟨h.told,⟨hk0,hk⟩,hq,.inr (.inl rfl)⟩⟩
 grind [vR]
theorem PM{H K:Nat}{w:zm}(h:WJ H K w)(hH1:1<=H)(hH:H<=4)(h1:w.RX=1):
  ∃st,xN w=some (0,⟨w.SK,st,0,⟨0,⟨0,⟨0,0⟩⟩,0,0,0,none⟩⟩)/\WJ H K ⟨w.SK,st,0,⟨0,⟨0,⟨0,0⟩⟩,0,0,0,none⟩⟩:=by
 refine ⟨⟨aset w.Tq.Sc w.SC.hook.toNat (FD (w.Tq.Sc w.SC.hook.toNat))⟩,?_,⟨h.told.aset _ (I7 (h.told _)),⟨t9 0,by grind⟩,KQ,.inl rfl⟩⟩;unfold xN;have:=h.hook;rw [d8 (by simp [h1]),I6 this.1 (by omega)];rfl
theorem Fb{H K:Nat}{w:zm}(h:WJ H K w)(h1:w.RX=1){m:zD}(hm1:m.Maps.length*8<=140737488355328)(hm2:m.Code.length*40<=140737488355328)(hK:∀x∈m.Maps,x<(K:Int))(v p:Int):
  ∃e w',jV 2199023255552 w v p m=some (e,w')/\WJ H K w'/\((e≠0/\w'=w/\∃o q,jX 2199023255552 m=some (o,q,e))\/
   (e=0/\w'=⟨⟨⟨λ_=>0⟩,w.SK.Sz⟩,w.Tq,2,⟨w.SC.hook,w.SC.SI,v,p,w.SC.calls,some (Qp m w.SC.SI.Sl)⟩⟩/\ni w'<=uC m.Code m.Code.length)):=by
 obtain ⟨o,q,e,hj,hc⟩:=mg m;rcases hc with ⟨he,ho⟩|⟨he,hq,j,ho,hS⟩
 ·refine ⟨e,w,?_,h,.inl ⟨he,rfl,o,q,hj⟩⟩;unfold jV;rw [d8 (by simp [h1]),Lj hj he];simp only [zbs];show (if (e !=0)=true then _ else _)=_;rw [d7 (by simpa using he)]
 ·subst he hq;have hR:Run m j (pk (Qp m w.SC.SI.Sl) ⟨⟨λ_=>0⟩,w.SK.Sz⟩) 0:=Re hS h.ev w.SK.Sz;obtain ⟨i,hi,_⟩:=aT hR.lt;refine ⟨0,_,?_,?_,.inr ⟨rfl,rfl,?_⟩⟩
  ·unfold jV;rw [d8 (by simp [h1]),I5 hm1 hm2 hj];rfl
  ·exact ⟨h.told,h.hook,h.ev,.inr (.inr (.inl ⟨rfl,m,j,Qp m w.SC.SI.Sl,0,i,rfl,hS,hK,hR,rfl,hi,λe=>by cases e⟩))⟩
  ·exact Iz hS.Ty
theorem Gh{M:zr}{k:Int}{S:zl}(hu:tK M.regs):Pst (jW 2199023255552 M k S) (λr=>u64 r.1.Item.SQ/\u64 r.1.Item.SJ):=by
 unfold jW;refine i9 λ_=>k6 (i9 λ_=>i9 λ_=>o7 (R:=λo=>u64 o) (k6 (i4 (hu 3 (by decide))) (i4 ⟨by decide,by decide⟩)) λo ho=>i4 ⟨hu 2 (by decide),ho⟩) ?_
 exact o7 (R:=λo:zr×zl×qS=>u64 o.2.2.Item.SQ/\u64 o.2.2.Item.SJ) (k6 (i9 λ_=>i4 KQ) (i4 KQ)) (λo ho=>i4 ho)
theorem Gi{M:zr}{S:zl}(hu:tK M.regs):Pst (qJ 2199023255552 M S) (λr=>u64 r.1.Item.SQ/\u64 r.1.Item.SJ):=by
 unfold qJ;refine k6 (i4 KQ) (k6 (i9 λ_=>i9 λ_=>i4 KQ) (i9 λ_=>k6 ?_ (k6 (i9 λ_=>i4 KQ) (i9 λ_=>i4 KQ))))
 grind [o7,u64,Gh,w64,i4]
inductive DV (H K:Nat) (w:zm) (a:qS) (w':zm):Prop
 |ends:a.RS=4->w'.RX=0->w'.SC=⟨0,⟨0,⟨0,0⟩⟩,0,0,0,none⟩->DV H K w a w'
 |asks:a.RS=2->w'.RX=3->w'.SC.hook=w.SC.hook->w'.SC.SI=w.SC.SI->w'.SC.prog=w.SC.prog->w'.SC.Sq=w.SC.Sq->(0<=a.Item.SE/\a.Item.SE<K/\0<=a.Item.Op/\a.Item.Op<5/\u64 a.Item.SQ/\u64 a.Item.SJ)->ni w'<=ni w->DV H K w a w'
 |goes:a.RS=1\/a.RS=3->w'.RX=2->w'.SC.hook=w.SC.hook->w'.SC.SI=w.SC.SI->w'.SC.prog=w.SC.prog->w'.SC.Sq=w.SC.Sq->ni w'+1<=ni w->DV H K w a w'
theorem KS{H K:Nat}{w:zm}(hH1:1<=H)(hH:H<=4)(h:WJ H K w)(h2:w.RX=2):∃a w',qG 2199023255552 w=some (a,true,w')/\WJ H K w'/\DV H K w a w':=by
 obtain ⟨m,j,M,p,i,hM,hS,hK,hR,h0,hi,_⟩:PK K w 0:=by
  rcases h.is with e|e|e|e
  ·omega
  ·omega
  ·exact e.2
  ·omega
 obtain ⟨⟨a,M1'⟩,h1,hst,hpc⟩:=Kq hS hR h0 hi;obtain ⟨M1,S1,g1,rfl⟩:=Li h1;simp only at g1;have hit:u64 a.Item.SQ/\u64 a.Item.SJ:=Gi hR.u _ g1;have hk4:w.SC.hook<4:=by have:=h.hook.2;omega
 have hl:ni w=pot m.Code M.LE p m.Code.length:=kB hM hR;unfold qG;rw [d8 (by simp [h2]),hM];simp only [zbs,g1];cases hst with
 |ends e1 e2 e3 e4=>
  simp only at e2;rw [d8 (by simp [e2]),d7 (by simp [e2])];unfold aC;simp only [zbs];rw [P4 h.hook.1 hk4 (h.told _)];simp only [zbs];exact ⟨a,_,rfl,⟨h.told.aset _ (Ll _ _),⟨t9 0,by grind⟩,KQ,.inl rfl⟩,.ends e2 rfl rfl⟩
 |asks e1 e2 e3 e4 e5 e6 e7=>
  simp only at e3 e4 e5 e6 e7;rw [d7 (by simp [e3])];refine ⟨a,_,rfl,{h with is:=.inr (.inr (.inr ⟨rfl,m,j,M1,p,i,rfl,hS,hK,e5,e4,hi,λ_=>⟨e1,e2⟩⟩))},.asks e3 rfl rfl rfl rfl rfl ⟨?_,hK _ e7.1,e7.2.1,e7.2.2,hit.1,hit.2⟩ ?_⟩
  ·exact (hS.goodM.1 _ e7.1).1
  ·rw [hl];show ni ⟨S1,w.Tq,3,⟨w.SC.hook,w.SC.SI,w.SC.Sq,w.SC.prog,vc (w.SC.calls+1),some M1⟩⟩<=_;rw [kB (w:=⟨S1,w.Tq,3,⟨w.SC.hook,w.SC.SI,w.SC.Sq,w.SC.prog,vc (w.SC.calls+1),some M1⟩⟩) rfl e5];have e6:M1.LE=M.LE:=e6
   grind
 |goes e1 e2 e3=>
  simp only at e1 e2 e3;obtain ⟨q,hR2,hp2,_⟩:=e3;have hp2:pot m.Code M1.LE q m.Code.length+1<=pot m.Code M.LE p m.Code.length:=hp2;obtain ⟨i2,hi2,_⟩:=aT hR2.lt;rw [d8 (by simp;omega),d8 (by simp;omega)];refine ⟨a,_,rfl,⟨h.told,h.hook,h.ev,.inr (.inr (.inl ⟨h2,m,j,M1,q,i2,rfl,hS,hK,hR2,e2,hi2,λe=>by cases e⟩))⟩,.goes e1 h2 rfl rfl rfl rfl ?_⟩;rw [hl,kB (w:=⟨S1,w.Tq,w.RX,⟨w.SC.hook,w.SC.SI,w.SC.Sq,w.SC.prog,w.SC.calls,some M1⟩⟩) rfl hR2];exact hp2
theorem mU{H K:Nat}{w:zm}(h:WJ H K w)(h3:w.RX=3){c:zk}(hc:u64 c.SJ):∃w',xn w c=some (0,w')/\WJ H K w'/\w'.RX=2/\w'.SC.hook=w.SC.hook/\w'.SC.SI=w.SC.SI/\w'.SC.prog=w.SC.prog/\w'.SC.Sq=w.SC.Sq/\ni w'+1<=ni w:=by
 obtain ⟨m,j,M,p,i,hM,hS,hK,hR,h0,hi,ho⟩:PK K w 1:=by
  rcases h.is with e|e|e|e
  ·omega
  ·omega
  ·omega
  ·exact e.2
 obtain ⟨ho,h4⟩:=ho rfl;obtain ⟨⟨e,M1'⟩,h1,he,s0,q,hR2,hp2,_⟩:=HX hS hR h0 hi ho h4 hc;obtain ⟨M1,g1,rfl⟩:=GB h1;simp only at g1 he s0 hR2 hp2;have hp2:pot m.Code M1.LE q m.Code.length+1<=pot m.Code M.LE p m.Code.length:=hp2;have s0:M1.state=0:=s0;subst he;obtain ⟨i2,hi2,_⟩:=aT hR2.lt;unfold xn;rw [d8 (by simp [h3]),hM];simp only [zbs,g1];refine ⟨_,rfl,⟨h.told,h.hook,h.ev,.inr (.inr (.inl ⟨rfl,m,j,M1,q,i2,rfl,hS,hK,hR2,s0,hi2,λe=>by cases e⟩))⟩,rfl,rfl,rfl,rfl,rfl,?_⟩;rw [kB hM hR,kB (w:={w with RX:=2,SC:=⟨w.SC.hook,w.SC.SI,w.SC.Sq,w.SC.prog,w.SC.calls,some M1⟩}) rfl hR2];exact hp2
end Go.Proofs.YtplmgfkghomelaaGreatDoor
namespace Go.Proofs.YtplmgfkghomelaaGreatDoor.KH
open Go.Sx
theorem ng{α:Type}{l:List α}{i:Nat}{x:α}(h:l[i]? =some x):l.take (i+1)=l.take i++[x]:=by
 rw [x4,h];rfl
def nS(w:zm):zH:=⟨w,0,0,none,false⟩
def Qi:zx:=⟨0,0,[],[]⟩
def CI(s:List zF):ze:=⟨s,0,false,0,Qi,[],[]⟩
theorem H4{c:zN}{fu:Nat}{w0:zm}(hw:eY=some w0)(h0:0<=c.RR)(h4:c.RR<=4)(hfu:10<fu):
  loop (kT c) fu ([],0)=some (List.replicate c.RR.toNat (nS w0)):=by
 obtain ⟨r,h1,rfl⟩:=lu (body:=kT c) (λm s=>∃n:Nat,s.2=(n:Int)/\s.1=List.replicate n (nS w0)/\(n:Int)+m=c.RR) (λr=>r=List.replicate c.RR.toNat (nS w0)) (λm s again hI ha=>by
  obtain ⟨l,i⟩:=s;obtain ⟨n,e1,e2,e3⟩:=hI;have e1:i=(n:Int):=e1;have e2:l=List.replicate n (nS w0):=e2;subst e1 e2;unfold kT;show ∃r,(if decide ((n:Int)<c.RR)=true then _ else _)=some r/\_;by_cases hc:(n:Int)<c.RR
  ·rw [d7 (by simpa using hc),hw,zbs];obtain ⟨u,hu⟩:=cY (m:=(List.replicate n (nS w0)).length+[nS w0].length) (b:=8) (by grind);rw [show room ((List.replicate n (nS w0),(n:Int)).1.length+[zH.mk w0 0 0 none false].length) 8=some u from hu,zbs,qp (by omega) (by omega)];refine ha (m-1) _ (by omega) ⟨n+1,by grind,?_,by omega⟩;show List.replicate n (nS w0)++[nS w0]=_;rw [List.replicate_succ']
  grind) fu c.RR.toNat ([],0) (by omega) ⟨0,rfl,rfl,by omega⟩
 exact h1
structure Fit (c:zF):Prop where
 items:c.Sy.length*32<=140737488355328
 TW:c.Sn.length<=140737488355328
 ev:u64 c.Sl.A/\u64 c.Sl.B
 it:u64 c.Item.SJ
 its:∀i∈c.Sy,u64 i.SJ
theorem Du(l:List zF)(h:∀c∈l,Fit c):(l.foldlM (λ(_:Unit)c=>(zI c.Sy).bind λ_=>(qN c.Sn).bind λ_=>some ()) ())=some ():=by
 induction l with
 |nil=>rfl
 |cons c l ih=>
  have hc:=h c zcs;obtain ⟨u,hu⟩:=cY (m:=([]:List zh).length+c.Sy.length) (b:=32) (by have:=hc.items;simpa using this);obtain ⟨v,hv⟩:=cY (m:=([]:List Int).length+c.Sn.length) (b:=1) (by have:=hc.TW;simpa using this);rw [List.foldlM_cons];unfold zI qN;rw [hu,hv];exact ih λx hx=>h x (zcm _ hx)
theorem H5{l:List zF}(hl:l.length<=64)(h:∀c∈l,Fit c):cj l=some l:=by
 unfold cj;obtain ⟨u,hu⟩:=cY (m:=0+l.length) (b:=128) (by omega)
 grind [zI,qN,Du]
theorem Dv{ss:List (List zF)}(hn:ss.length<=4)(hf:∀s∈ss,∀c∈s,Fit c):
  ∃o,jL (nL ss) (λ(s:List ze)=>(.inl s)) ss.length 0 ([]:List ze)=some o/\match o with
   |.inl l=>l=ss.map CI/\∀s∈ss,s.length<=64
   |.inr z=>z.1=none/\z.2≠0:=by
 refine mP (N:=ss.length) (λi l=>l=(ss.take i).map CI/\∀s∈ss.take i,s.length<=64) _ (λi s again hi hI ha=> ?_) (λs hs=> ?_) ss.length 0 [] (by omega) ⟨rfl,λs hs=>by simp at hs⟩
 ·obtain ⟨rfl,hI⟩:=hI;unfold nL;rw [mi hi,zbs];have hx:ss[i]? =some ss[i]:=zeg hi;by_cases hc:((ss[i].length:Nat):Int)>64
  ·rw [d7 (by simpa using hc)]
   grind
  ·rw [d8 (by simpa using hc),H5 (by omega) (hf _ (yb hi)),zbs];obtain ⟨u,hu⟩:=cY (m:=((ss.take i).map CI).length+[CI ss[i]].length) (b:=8) (by grind);rw [show room (((ss.take i).map CI).length+[ze.mk ss[i] 0 false 0 (zx.mk 0 0 ([]:List zk) ([]:List zp)) ([]:List (List zp)) ([]:List zx)].length) 8=some u from hu,zbs];refine ha _ ⟨?_,λs hs=> ?_⟩
   ·show (ss.take i).map CI++[CI ss[i]]=_;rw [ng hx,v6];rfl
   ·rw [ng hx] at hs
    grind
 grind
structure OC (c:zN) (ss:List (List zF)) (h:za):Prop where
 hk:1<=c.Sh/\c.Sh<=4
 wk:1<=c.RR/\c.RR<=4
 sh:1<=c.RZ/\c.RZ<=4
 mp:c.Maps.length<=4
 cl:1<=ss.length/\ss.length<=4
 sl:∀s∈ss,s.length<=64
 is:∃r os rs w0,eY=some w0/\fD c.Sh.toNat c.Maps.length c.RR.toNat 0 r/\r.given=0/\r.Si.SB.last=0/\(r.Sj=[]/\∀u∈r.Si.Sc,u.Sq=0)/\r.waiting=[]/\r.Sg.in_=List.replicate c.RR.toNat 0/\
  ((os.length:Int)=c.RZ/\∀(i:Nat)(x:zc),os[i]? =some x->iQ x/\x.RW=[]/\x.RY=false/\x.SX=c.RZ/\x.Tr=i/\x.maps.length=c.Maps.length/\Gf x)/\
  ((rs.length:Int)=c.Sh/\∀r∈rs,kA r/\r.waiting=[]/\r.Tu=false)/\
  h=⟨r,⟨List.replicate (ss.length+c.RR.toNat+c.RZ.toNat+1) ⟨0,0⟩,0⟩,c,ss.map CI,List.replicate c.RR.toNat (nS w0),os,rs,[],[],0,false,false,[],⟨0⟩⟩
theorem Dw{fu:Nat}(hfu:10<fu)(c:zN)(ss:List (List zF))(hf:∀s∈ss,∀c∈s,Fit c):
  (∃e,cO fu c ss=some (none,e)/\e≠0)\/∃h,cO fu c ss=some (some h,0)/\OC c ss h:=by
 by_cases hb:¬ (1<=c.Sh/\c.Sh<=4/\0<=(c.Maps.length:Int)/\(c.Maps.length:Int)<=4/\1<=c.RR/\c.RR<=4)
 ·refine .inl ⟨2,?_,by decide⟩;unfold cO;rw [NN hb];rfl
 obtain ⟨b1,b2,b3,b4,b5,b6⟩:=Classical.not_not.1 hb;obtain ⟨r,hr,r0,r1,r2,r3,r4,r5⟩:=PR (H:=c.Sh.toNat) (M:=c.Maps.length) (W:=c.RR.toNat) (by omega) (by omega) (by omega) (by omega) (by omega);rw [show ((c.Sh.toNat:Nat):Int)=c.Sh by omega,show ((c.RR.toNat:Nat):Int)=c.RR by omega] at hr;by_cases hc:c.RZ<1\/c.RZ>4\/(ss.length:Int)<1\/(ss.length:Int)>4
 ·refine .inl ⟨2,?_,by decide⟩
  grind [cO,aa]
 have hcl:(1<=c.RZ/\c.RZ<=4)/\1<=ss.length/\ss.length<=4:=by omega
 have key:(∃e,cO fu c ss=some (none,e)/\e≠0)\/∃h,cO fu c ss=some (some h,0)/\OC c ss h:=by
  unfold cO;rw [hr,zbs];simp only [aa];rw [d8 (by grind)];obtain ⟨o1,ho1,h1⟩:=Io (c:=c) (fu:=fu) (by omega) b2 hfu;rw [ho1,zbs];cases o1 with
  |inr z=>obtain ⟨z1,z2⟩:=z;obtain ⟨e1,e2⟩:=h1;exact .inl ⟨z2,by grind,e2⟩
  |inl rs=>
   simp only;obtain ⟨o2,ho2,h2⟩:=Gg (c:=c) (fu:=fu) (by omega) hcl.1.2 hfu;rw [ho2,zbs];cases o2 with
   |inr z=>obtain ⟨z1,z2⟩:=z;obtain ⟨e1,e2⟩:=h2;exact .inl ⟨z2,by grind,e2⟩
   |inl os=>
    simp only;obtain ⟨w0,hw0,_⟩:=WJ.new (H:=1) (K:=0) (m6 1);rw [H4 hw0 (by omega) b6 hfu,zbs];obtain ⟨o3,ho3,h3⟩:=Dv hcl.2.2 hf;rw [ho3,zbs];cases o3 with
    |inr z=>obtain ⟨z1,z2⟩:=z;obtain ⟨e1,e2⟩:=h3;exact .inl ⟨z2,by grind,e2⟩
    |inl l=>
     obtain ⟨rfl,h3⟩:=h3;simp only
     have hk:mO (w64 ((w64 ((w64 (((ss).length:Int)+c.RR))+c.RZ))+1))=some (some ⟨List.replicate (ss.length+c.RR.toNat+c.RZ.toNat+1) ⟨0,0⟩,0⟩,0):=by
      grind [qp,mO,mkLen]
     rw [hk,zbs];exact .inr ⟨_,rfl,⟨b1,b2⟩,⟨b5,b6⟩,hcl.1,by omega,hcl.2,h3,r,os,rs,w0,hw0,r0,r1,r2,r3,r4,r5,h2,h1,rfl⟩
 exact key
open Go.Sx
theorem wO{k n:Int}(h1:1<=n)(h4:n<=4):∃i:Nat,aB k n=some (i:Int)/\(i:Int)<n:=by
 unfold aB;rw [d8 (by simp;omega)];have hz:nz (vc n)=some ():=by grind [nz,wX]
 rw [hz,zbs,wX (x:=n) (by omega) (by omega)];generalize hb:iI .u64 (vc (k*11400714819323198485)) 32=b
 have hb0:0<=b:=by
  have h2:=(xe (k*11400714819323198485)).1;rw [<- hb];show 0<=(vc (k*11400714819323198485)).fdiv (2^(min (Int.toNat 32) IntKind.u64.bits));rw [Int.fdiv_eq_ediv_of_nonneg _ (by grind)];exact Int.ediv_nonneg h2 (Int.le_of_lt (Int.pow_pos (by decide)))
 have e1:=Int.tmod_lt_of_pos b (show 0<n by omega);have e2:=Int.tmod_nonneg n hb0;rw [qp (by omega) (by omega)];exact ⟨(b.tmod n).toNat,by grind,by omega⟩
theorem H6{o:zc}(he:o.RY=false){r:zq}(hm0:0<=r.Item.SE)(hm1:r.Item.SE<o.maps.length)(hw:r.Ts=true\/(0<=r.Item.Op/\r.Item.Op<5/\aB r.Item.SQ o.SX=some o.Tr))
  (hb:(o.RW.length+1)*56<=140737488355328):jI o [r]=some (0,{o with RW:=o.RW++[r]}):=by
 have hf:xS o r=some true:=by
  grind [xS]
 have e1:Go.Sx.idx [r] ((0:Nat):Int)=some r:=rfl;unfold jI;rw [d8 (by simp [he])];simp only [t7,ye,jL,gS,e1,zbs,hf];obtain ⟨u,hu⟩:=cY (m:=o.RW.length+1) (b:=56) hb
 grind
end Go.Proofs.YtplmgfkghomelaaGreatDoor.KH
