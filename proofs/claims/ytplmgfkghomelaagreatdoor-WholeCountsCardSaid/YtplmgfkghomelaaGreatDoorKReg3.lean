/- Lemmas. -/
import Derived.Test.YtplmgfkghomelaaGreatDoorKEng
set_option linter.all false
namespace Go.Proofs.YtplmgfkghomelaaGreatDoor
open Go.Sx
variable {H M W n:Nat}{r:zb}{b:Type}{h d a:Int}{m:List (Int×b)}{S:zm}{o:Option zj}{q:Int×zx}{c:zE}{x:zU}{i:zq}{j:qT×EM}{l:zk}{v:Int×EM}{y:zD}{z A:zM}{B:zR}
theorem ud(h:fF H M W n r)(k:Int):OK (xJ r.SF [k]) (λq=>(q.1≠0/\q.2=r.SF)\/(q.1=0/\∃l,(l.length=r.SF.Sz.length/\∀(i:Nat) u,l[i]? =some u->u.SL=0\/r.SF.Sz[i]? =some u)/\q.2=⟨r.SF.SU,l⟩)):=by
 unfold xJ;refine d6 (g9 (Q:=λo=>match o with|.inl _=>0<=k/\k<r.SF.Sz.length|.inr q=>q=(2,r.SF)) (λi _=>i=0\/0<=k/\k<r.SF.Sz.length) (.inl rfl) (λi s a d c f=> ?_) (λs c=> ?_)) (λo b=> ?_)
 ·have e:i=0:=by simp at d;omega
  subst e;unfold fN jg;simp only [idx,z9,k8,zbs,Int.natCast_zero,u6,q9,Int.toNat_zero];refine d6 (R:=λo=>o=false->0<=k/\k<r.SF.Sz.length) (d5 (λ_=>b9 (λe=>by cases e)) (λz=> ?_)) (λo b=>d5 (λ_=>b9 rfl) (λm=>f _ (.inr (b m))))
  grind [cut,iv,b9]
 ·grind
 ·cases o with
  |inr q=>exact b9 (.inl ⟨by rw [b];simp,by rw [b]⟩)
  |inl u=>
   obtain ⟨x,A,p⟩:=oA (l:=r.SF.Sz) b.1 b.2;refine d6 (g9 (Q:=λo=>match o with|.inl _=>True|.inr q=>q=(41,r.SF)) (λi _=>True) trivial (λi s a d c f=> ?_) (λs c=>trivial)) (λo g=> ?_)
   ·have e:i=0:=by simp at d;omega
    subst e;unfold fP jh;simp only [idx,z9,zbs,Int.natCast_zero,u6,q9,Int.toNat_zero];rw [show (if 0<=k then r.SF.Sz[k.toNat]? else none)=some x from by grind];simp only [zbs];exact d5 (λ_=>b9 rfl) (λ_=>f _ trivial)
   ·cases o with
    |inr q=>exact b9 (.inl ⟨by rw [g];simp,by rw [g]⟩)
    |inl u=>
     refine d6 (g9 (Q:=λt=>∃l,(l.length=r.SF.Sz.length/\∀(i:Nat) u,l[i]? =some u->u.SL=0\/r.SF.Sz[i]? =some u)/\t=⟨r.SF.SU,l⟩) (λi t=>∃l,(l.length=r.SF.Sz.length/\∀(i:Nat) u,l[i]? =some u->u.SL=0\/r.SF.Sz[i]? =some u)/\t=⟨r.SF.SU,l⟩) ⟨_,⟨rfl,λ_ _ j=>.inr j⟩,rfl⟩ (λi s a d c f=> ?_) (λs c=>c)) (λt v=>b9 (.inr ⟨rfl,v⟩));have e:i=0:=by simp at d;omega
     subst e;obtain ⟨l,hl,rfl⟩:=c;unfold fQ;obtain ⟨y,w,_⟩:=oA (l:=l) b.1 (by rw [hl.1];exact b.2)
     rw [show idx [k] ((0:Nat):Int)=some k from rfl];simp only [zbs,w];refine f _ ⟨_,⟨by rw [j8];exact hl.1,λi u j=> ?_⟩,rfl⟩
     rw [yo] at j
     grind
theorem Gx(h:fF H M W n r)(a:n+1<=1000000000)(b:(q.1≠0/\q.2=r.SF)\/(q.1=0/\∃l,(l.length=r.SF.Sz.length/\∀(i:Nat) u,l[i]? =some u->u.SL=0\/r.SF.Sz[i]? =some u)/\q.2=⟨r.SF.SU,l⟩)):fF H M W (n+1) (Gv r q.2):=by
 have c:=h.Ul;have d:=h.last;rcases b with ⟨_,e⟩|⟨_,l,hl,e⟩
 ·rw [e];exact h.mono (by omega) a
 ·rw [e];exact Cl h a (by rw [hl.1];exact h.hl) c (by simp;omega)
def Gy(r:zb)(c:zE):zb:={r with SC:=c}
theorem Cn(h:fF H M W n r)(a:n+1<=1000000000)(b:c.in_.length=W)(g:r.SC.TR<=c.TR)(i:c.TR<=r.SC.TR+1)(d:∀e∈c.in_,0<=e/\e<=c.TR):fF H M W (n+1) (Gy r c):=
 {h.mono (n':=n+1) (by omega) a with wk:=b,Um:=by have:=h.Um;simp [Gy];omega,TR:=by have:=h.TR;simp [Gy];omega,UL:=d,prog:=λp x f=>by have:=h.prog p x f;exact ⟨this.1,this.2.1,this.2.2.1,this.2.2.2.1,this.2.2.2.2.1,this.2.2.2.2.2.1,by simp [Gy];omega⟩}
theorem AG(h:fF H M W n r)(k:Int):OK (vj r.SC k) (λq=>(q.2.1≠0/\q.1=0/\q.2.2=r.SC)\/(q.2.1=0/\q.1≠0/\0<=k/\k<W/\r.SC.in_[k.toNat]? =some 0/\q.2.2=⟨r.SC.TR,r.SC.in_.set k.toNat r.SC.TR⟩)):=by
 unfold vj vi;simp only [zbs];refine d5 (λ_=>b9 (.inl ⟨by simp,rfl,rfl⟩)) (λa=> ?_);simp only [Bool.not_eq_false',zae,zdq] at a;obtain ⟨x,b,c⟩:=oA (l:=r.SC.in_) a.1 a.2;rw [b];simp only [zbs];refine d5 (λ_=>b9 (.inl ⟨by simp,rfl,rfl⟩)) (λd=>b9 (.inr ⟨rfl,?_,a.1,by rw [<- h.wk];exact a.2,?_,rfl⟩))
 ·have:=h.Um;simp;omega
 grind
theorem I0(h:fF H M W n r)(b:n+1<=1000000000)(k:Int):fF H M W (n+1) (Gy r ⟨r.SC.TR,r.SC.in_.set k.toNat r.SC.TR⟩):=by
 refine Cn h b (by simp [h.wk]) (u6 _) (by simp;omega) (λe c=> ?_);have d:=h.Um;rcases q7 c with a|a
 ·exact h.UL e a
 grind
theorem AI(h:fF H M W n r)(k:Int):OK (vk r.SC [k]) (λq=>(q.1≠0/\q.2=r.SC/\(0<=k->k<W->r.SC.in_[k.toNat]? =some 0))\/(q.1=0/\0<=k/\k<W/\q.2=⟨r.SC.TR,r.SC.in_.set k.toNat 0⟩)):=by
 have C:=h.Uk;unfold vk;refine d6 (g9 (Q:=λo=>match o with|.inl _=>0<=k/\k<W|.inr q=>q=(2,r.SC)/\¬ (0<=k/\k<W)) (λi f=>(i=0/\f=λ_=>false)\/(i=1/\0<=k/\k<W)) (.inl ⟨rfl,rfl⟩) (λi s a g d j=> ?_) (λs d=> ?_)) (λo b=> ?_)
 ·have e:i=0:=by simp at g;omega
  subst e;unfold gk vi;rw [show idx [k] ((0:Nat):Int)=some k from rfl];simp only [zbs];by_cases p:0<=k/\k<W
  ·have D:ain 4 k=some k.toNat:=by unfold ain;rw [d8 ⟨p.1,by omega⟩]
   have v:(!(decide (k>=0)&&decide (k<(r.SC.in_.length:Int))))=false:=by rw [h.wk];simp;omega
   grind
  ·have v:(!(decide (k>=0)&&decide (k<(r.SC.in_.length:Int))))=true:=by rw [h.wk];simp;omega
   grind [b9]
 ·grind
 ·cases o with
  |inr q=>exact b9 (.inl ⟨by rw [b.1];simp,by rw [b.1],λw y=>absurd ⟨w,y⟩ b.2⟩)
  |inl u=>
   obtain ⟨x,z,m⟩:=oA (l:=r.SC.in_) b.1 (by rw [h.wk];exact b.2)
   refine d6 (g9 (Q:=λo=>match o with|.inl _=>True|.inr q=>q=(41,r.SC)/\x=0) (λi _=>True) trivial (λi s a g d j=> ?_) (λs d=>trivial)) (λo c=> ?_)
   ·have e:i=0:=by simp at g;omega
    subst e;unfold gn;rw [show idx [k] ((0:Nat):Int)=some k from rfl];simp only [zbs,z];exact d5 (λA=>b9 ⟨rfl,by simpa using A⟩) (λ_=>j _ trivial)
   ·cases o with
    |inr q=>exact b9 (.inl ⟨by rw [c.1];simp,by rw [c.1],λ_ _=>by rw [m,c.2]⟩)
    |inl u=>
     refine d6 (g9 (Q:=λt=>t=⟨r.SC.TR,r.SC.in_.set k.toNat 0⟩) (λi t=>(i=0/\t=r.SC)\/(i=1/\t=⟨r.SC.TR,r.SC.in_.set k.toNat 0⟩)) (.inl ⟨rfl,rfl⟩) (λi s a g d j=> ?_) (λs d=> ?_)) (λt B=>b9 (.inr ⟨rfl,b.1,b.2,B⟩))
     ·grind [gp,idx]
     grind
theorem I1(h:fF H M W n r)(b:n+1<=1000000000)(k:Int):fF H M W (n+1) (Gy r ⟨r.SC.TR,r.SC.in_.set k.toNat 0⟩):=by
 refine Cn h b (by simp [h.wk]) (u6 _) (by simp;omega) (λe c=> ?_);have d:=h.Um;rcases q7 c with a|a
 ·exact h.UL e a
 grind
theorem Gz(h:fF H M W n r):vw r.SC=some (r.SC.TR+1,⟨r.SC.TR+1,r.SC.in_⟩):=by
 have a:=h.Um;have b:=h.TR;have c:=h.Tv
 grind [vw,gt]
theorem I2(c:zE)(e:Int)(hl:c.in_.length<=140737488355328):vF c e=some (decide (∀x∈c.in_,x=0\/e<=x)):=by
 unfold vF;have h:room c.in_.length 1=some ():=by grind [room]
 rw [h];simp only [zbs];refine OK.is (d6 (g9 (Q:=λo=>match o with|.inl _=>∀x∈c.in_,x=0\/e<=x|.inr q=>q=false/\¬ ∀x∈c.in_,x=0\/e<=x) (λi _=>∀x∈c.in_.take i,x=0\/e<=x) (by simp) (λi s b g j k=> ?_) (λs j=>by grind)) (λo m=> ?_))
 ·unfold gS;refine f9 (i7 g (λx d=>d5 (λf=>b9 ⟨rfl,λa=> ?_⟩) (λf=>k _ ?_)))
  ·have:=a x (zmg d);simp at f;omega
  ·intro y l;rw [x6,d] at l
   grind
 grind [b9]
open Go.Sx
theorem Li(h:fF H M W n r)(p:Int):OK (aK r.SF [p]) (λl=>l.length<=4/\(l=[]->∀(i:Nat) u,r.SF.Sz[i]? =some u->0<u.SL->u.prog≠p)):=by
 have v:=h.Uk;have hl:=h.hl;unfold aK;refine d6 (g9 (Q:=λl=>l.length<=4/\(l=[]->∀(i:Nat) u,r.SF.Sz[i]? =some u->0<u.SL->u.prog≠p)) (λi l=>l.length<=i/\(l=[]->∀(j:Nat) u,j<i->r.SF.Sz[j]? =some u->0<u.SL->u.prog≠p)) ⟨by simp,λ_ j u d=>by omega⟩ (λi s b f c k=> ?_) (λs c=>⟨by omega,λe j u a=>c.2 e j u (zes.1 a).1 a⟩)) (λl h=>b9 h);unfold gr;refine f9 (i7 f (λx g=> ?_));simp only [iv,zbs];refine d6 (R:=λo=>o=false->0<x.SL->x.prog≠p) (d5 (λ_=>b9 (by simp;exact λz _=>z)) (λ_=>b9 (by grind))) (λo m=>d5 (λ_=> ?_) (λe=>k _ ⟨by omega,λq j u d a=> ?_⟩))
 ·refine f9 (OK.hasRoom (by simp;omega) (k _ ⟨by simp;omega,λe=>by simp at e⟩))
 ·by_cases t:j=i
  ·subst t;rw [g] at a;cases a;exact m e
  ·exact c.2 q j u (by omega) a
def retired(r:zb)(p:Int)(x:zU):zb:=
 {r with SC:=⟨r.SC.TR+1,r.SC.in_⟩,SG:=uI r.SG p ⟨x.module,r.SC.TR+1⟩,waiting:=r.waiting++[p]}
theorem mJ(h:fF H M W n r)(p:Int):OK (qS r p) (λq=>(q.2.1≠0/\q.1=0/\q.2.2=r)\/(q.2.1=0/\q.1=r.SC.TR+1/\∃x,jA r.SG p=some x/\x.Tk=0/\(∀(i:Nat) u,r.SF.Sz[i]? =some u->0<u.SL->u.prog≠p)/\q.2.2=retired r p x)):=by
 unfold qS;cases c:jA r.SG p with
 |none=>exact m9 rfl (b9 (.inl ⟨by simp,rfl,rfl⟩))
 |some x=>
  refine j6 rfl ?_;simp only [zbs];refine d5 (λ_=>b9 (.inl ⟨by simp,rfl,rfl⟩)) (λd=> ?_);refine d6 (Li h p) (λl a=>d5 (λ_=>b9 (.inl ⟨by simp,rfl,rfl⟩)) (λb=> ?_));rw [Gz h];simp only [zbs];have e:=h.wlen;have hl:=h.len;refine f9 (OK.hasRoom (by simp;omega) (b9 (.inr ⟨rfl,rfl,x,rfl,?_,a.2 (by cases l<;>simp at b |-),rfl⟩)));have:=(h.prog p x c).2.2.2.2.2.1;simp at d;omega
theorem Ec(h:fF H M W n r)(g:n+1<=1000000000)(j:jA r.SG d=some x)(p:x.Tk=0):fF H M W (n+1) (retired r d x):=by
 have s:=h.TR;have k:=h.Um
 have c:∀q,jA (retired r d x).SG q=if d=q then some ⟨x.module,r.SC.TR+1⟩ else jA r.SG q:=by
  grind [retired,Ck]
 refine {h.mono (n':=n+1) (by omega) g with Um:=by grind [retired],TR:=by grind [retired],UL:=λe l=> ?_,TD:= ?_,len:= ?_,prog:= ?_,held:= ?_,UU:= ?_,Ur:= ?_}
 ·have:=h.UL e l
  grind [retired]
 ·unfold FA;rw [show (retired r d x).SG.map (·.1)=r.SG.map (·.1) from FB _ _ _];exact h.TD
 ·rw [show (retired r d x).SG.length=r.SG.length from Lc _ _ _];exact h.len
 ·intro q y f;rw [c] at f;split at f
  ·rename_i e
   subst e;cases f;have:=h.prog d x j
   grind [retired]
  ·have:=h.prog q y f
   grind [retired]
 ·show r.TE.held=_;rw [h.held];exact (IY (λ(z:zU)=>z.module.Maps) r.SG d ⟨x.module,r.SC.TR+1⟩ x j rfl).symm
 ·refine k7.2 ⟨h.UU,by simp,λa m b g e=> ?_⟩;simp at g;subst g;subst e;obtain ⟨y,f,o⟩:=(h.Ur a).1 m
  grind
 ·intro q;rw [c];show q∈r.waiting++[d]↔_;simp only [g8,i6];by_cases e:d=q
  ·subst e;simp;omega
  ·have i:¬ q=d:=λi=>e i.symm
   simp only [i,or_false,d7 e];exact h.Ur q
def ue(r:zb)(p:Int):Bool:=match jA r.SG p with
 |some x=>decide (∀e∈r.SC.in_,e=0\/x.Tk<=e)
 |none=>false
def lU(P:Int->Bool)(k:Int):List Int->List Int
 |[]=>[]
 |x::l=>if 0<k/\P x=true then x::lU P (k-1) l else lU P k l
theorem uf(P:Int->Bool):∀(l:List Int)(k:Int),(lU P k l).Sublist l
 |[],_=>List.Sublist.refl _
 |x::l,k=>by
  unfold lU;split
  ·exact (uf P l _).cons_cons x
  ·exact (uf P l _).cons x
theorem Ed(P:Int->Bool):∀(l:List Int)(k:Int),∀x∈lU P k l,P x=true
 |[],_=>λx h=>by cases h
 |y::l,k=>λx h=>by
  unfold lU at h;split at h
  ·rename_i a
   rcases j5.1 h with rfl|h
   ·exact a.2
   ·exact Ed P l _ x h
  ·exact Ed P l _ x h
theorem rm(P:Int->Bool)(x:Int):∀(l:List Int)(k:Int),lU P k (l++[x])=lU P k l++(if ((lU P k l).length:Int)<k/\P x=true then [x] else [])
 |[],k=>by
  grind [lU]
 |y::l,k=>by
  simp only [y8,lU];split
  ·rename_i h
   rw [rm P x l (k-1)]
   grind
  ·exact rm P x l k
def iJ(r:zb)(m:Int):List Int:=lU (ue r) m r.waiting
theorem I3(h:fF H M W n r)(m:Int):OK (jM (vu r m) (λ(s:List Int)=>s) r.waiting.length 0 []) (λl=>l=iJ r m):=by
 have q:=h.wlen;have hl:=h.len;refine g9 (λi s=>s=lU (ue r) m (r.waiting.take i)/\s.length<=i) ⟨by simp [lU],by simp⟩ (λi s b f a k=> ?_) (λs a=> ?_)
 ·obtain ⟨rfl,g⟩:=a;unfold vu;refine f9 (i7 f (λx d=> ?_));obtain ⟨y,j,_⟩:=(h.Ur x).1 (zmg d);have t:ue r x=decide (∀e∈r.SC.in_,e=0\/y.Tk<=e):=by grind [ue]
  have u:lU (ue r) m (r.waiting.take (i+1))=lU (ue r) m (r.waiting.take i)++(if ((lU (ue r) m (r.waiting.take i)).length:Int)<m/\ue r x=true then [x] else []):=by
   rw [eF d,rm]
  simp only [j,zbs,I2 _ _ (show r.SC.in_.length<=140737488355328 by have v:=h.wk;have w:=h.Uk;omega)];refine d6 (R:=λo=>o=decide (((lU (ue r) m (r.waiting.take i)).length:Int)<m/\ue r x=true)) (d5 (λc=>b9 ?_) (λc=>b9 ?_)) (λo p=> ?_)
  ·grind
  ·grind
  ·subst p;refine d5 (λc=>f9 (OK.hasRoom (by simp;omega) (k _ ?_))) (λc=>k _ ?_)
   ·grind
   grind
 ·rw [List.take_length] at a;exact a.1
theorem ug(l:List Int)(x:Int):jj x l=some (decide (x∈l)):=by
 grind [jj,iv]
theorem Lj(g:List Int)(p:List Int)(E:p.length<=16)(r:Nat)(F:r<p.length)(a:∃x,p[r]? =some x/\x∈g)(u:∀j,j<r->∀x,p[j]? =some x->x∉g):
  OK (loop (xk g) 2199023255552 (p,(r:Int),((r:Int)+1))) (λo=>o.1.length=p.length/\∃k:Nat,o.2=(k:Int)/\k<=p.length/\o.1.take k=p.filter (λx=>decide (x∉g))):=by
 refine OK.rounds (λs=>s.1.length=p.length/\∃k j:Nat,s.2.1=(k:Int)/\s.2.2=(j:Int)/\k<j/\j<=p.length/\s.1.take k=(p.take j).filter (λx=>decide (x∉g))/\s.1.drop j=p.drop j) (λs=>p.length-s.2.2.toNat) ?_ 2199023255552 _ ?_ (by simp;omega)
 ·rintro ⟨s,G,I⟩ c ⟨h,k,j,b,v,J,K,w,d⟩ z;simp only at b v h w d;subst b;subst v;unfold xk;simp only [h];by_cases C:j<p.length
  ·refine m9 (by simp;omega) ?_;refine f9 (i7 (by omega) (λx a=> ?_))
   have f:p[j]? =some x:=by
    have e:=congrArg (λl=>l[0]?) d
    grind
   rw [ug];simp only [zbs];have D:w64 ((j:Int)+1)=((j+1:Nat):Int):=by grind [gt]
   have i:w64 ((k:Int)+1)=((k+1:Nat):Int):=by grind [gt]
   have A:s.drop (j+1)=p.drop (j+1):=by
    have e:=congrArg (List.drop 1) d
    simpa [yj] using e
   have m:p.take (j+1)=p.take j++[x]:=eF f;rw [D];refine d5 (λn=> ?_) (λn=> ?_)
   ·have q:x∉g:=by simpa using n
    refine f9 (i7 (by omega) (λy B=> ?_));rw [i];refine z _ ⟨by simpa using h,k+1,j+1,rfl,rfl,by omega,by omega,?_,?_⟩ (by simp;omega)
    ·simp only [k8];rw [m,y9,<- w];have:(s.set k x)[k]? =some x:=by grind
     rw [x6,this];simp only [Option.toList_some,List.filter_cons,q,not_false_eq_true,decide_true,q9,List.filter_nil]
     congr 1
     exact List.take_set_of_le (by omega)
    ·simp only [k8];rw [List.drop_set_of_lt (by omega)];exact A
   ·have L:x∈g:=by simpa using n
    refine z _ ⟨h,k,j+1,rfl,rfl,by omega,by omega,?_,A⟩ (by simp;omega)
    grind
  ·refine j6 (by simp;omega) (b9 ⟨h,k,rfl,by omega,?_⟩)
   grind
 ·obtain ⟨x,a,t⟩:=a;refine ⟨rfl,r,r+1,rfl,by simp,by omega,by omega,?_,rfl⟩;simp only;rw [eF a,y9]
  have b:(p.take r).filter (λx=>decide (x∉g))=p.take r:=by
   refine List.filter_eq_self.2 (λy B=> ?_);obtain ⟨j,C,e⟩:=u5.1 B
   grind
  rw [b];simp [t]
theorem tP(p g:List Int)(t:p.length<=16):jp 2199023255552 p g=some (p.filter (λx=>decide (x∉g))):=by
 refine OK.is ?_;unfold jp
 have b:OK (jz p g) (λi=>(i= -1/\∀x∈p,x∉g)\/∃j:Nat,i=(j:Int)/\j<p.length/\(∃x,p[j]? =some x/\x∈g)/\∀q,q<j->∀x,p[q]? =some x->x∉g):=by
  unfold jz;refine d6 (g9 (Q:=λo=>match o with|.inl _=>∀x∈p,x∉g|.inr i=>∃j:Nat,i=(j:Int)/\j<p.length/\(∃x,p[j]? =some x/\x∈g)/\∀q,q<j->∀x,p[q]? =some x->x∉g) (λi _=>∀q,q<i->∀x,p[q]? =some x->x∉g) (λq r=>by omega) (λi s c a d k=> ?_) (λs d=> ?_)) (λo u=> ?_)
  ·unfold aI;refine f9 (i7 a (λx h=> ?_));rw [ug];simp only [zbs];refine d5 (λf=>b9 ⟨i,rfl,a,⟨x,h,by simpa using f⟩,d⟩) (λf=>k _ (λq r y v=> ?_))
   grind
  ·intro x h;obtain ⟨j,l,e⟩:=u5.1 h;exact d j l x (by grind)
  grind [b9]
 refine d6 b (λi a=> ?_);rcases a with ⟨rfl,m⟩|⟨j,rfl,l,h,n⟩
 ·refine m9 (by simp) (b9 ?_);exact (List.filter_eq_self.2 (λx h=>by grind)).symm
 ·refine j6 (by simp) ?_
  grind [gt,d6,Lj,cut,b9]
open Go.Sx
theorem FA.mdels(h:FA m)(g:List Int):FA (mdels m g):=by
 induction g generalizing m with
 |nil=>exact h
 |cons x g i=>exact i (h.mdel x)
theorem GA(h:FA m)(g:List Int)(q:Int):jA (mdels m g) q=if q∈g then none else jA m q:=by
 induction g generalizing m with
 |nil=>simp [mdels]
 |cons x g i=>
  simp only [mdels];rw [i (h.mdel x),IX h]
  grind
theorem I4{a:Type}(f:b->a)(g:List Int)(m:List (Int×b)):(mdels m g).map (λp=>(p.1,f p.2))=mdels (m.map (λp=>(p.1,f p.2))) g:=by
 induction g generalizing m with
 |nil=>rfl
 |cons x g i=>simp only [mdels];rw [i,Ld]
def settled(r:zb)(g:List Int):zb:=
 {r with TE:=⟨r.TE.maps,mdels r.TE.held g⟩,SG:=mdels r.SG g,waiting:=r.waiting.filter (λx=>decide (x∉g))}
theorem Ll(p:zY)(x:Int):∃e,bL p [x]=some (e,⟨p.maps,mdel p.held x⟩):=by
 rw [Oa,d8 (by simp)];by_cases h:(jA p.held x).isSome=true
 ·rw [d8 (by simpa using h)];exact ⟨_,rfl⟩
 ·rw [d7 (by simpa using h)]
  have:jA p.held x=none:=by cases a:jA p.held x with
   |none=>rfl
   |some v=>rw [a] at h;simp at h
  rw [pH this];exact ⟨_,rfl⟩
theorem I5(r:zb)(g:List Int):jM (vv g) (λ(s:zb)=>s) g.length 0 r=some {r with TE:=⟨r.TE.maps,mdels r.TE.held g⟩,SG:=mdels r.SG g}:=by
 refine OK.is (g9 (λi s=>s={r with TE:=⟨r.TE.maps,mdels r.TE.held (g.take i)⟩,SG:=mdels r.SG (g.take i)}) rfl (λi s a b h k=> ?_) (λs h=> ?_))
 ·subst h;unfold vv;refine f9 (i7 b (λx c=> ?_));obtain ⟨e,d⟩:=Ll ⟨r.TE.maps,mdels r.TE.held (g.take i)⟩ x
  grind [eF,wG]
 grind
theorem Lm(r:zb)(m:Int):(iJ r m).Sublist r.waiting:=uf _ _ _
theorem I6(h:fF H M W n r)(m:Int):jY 2199023255552 r m=some (iJ r m,settled r (iJ r m)):=by
 refine OK.is ?_;unfold jY;refine d6 (I3 h m) (λg a=> ?_);rw [I5];simp only [zbs];have b:=h.wlen;have hl:=h.len;rw [tP _ _ (by omega)];simp only [zbs];exact b9 (by rw [a];rfl)
theorem Oe(h:fF H M W n r)(b:a∈iJ r d):∃x,jA r.SG a=some x/\0<x.Tk/\∀e∈r.SC.in_,e=0\/x.Tk<=e:=by
 obtain ⟨x,c,f⟩:=(h.Ur a).1 ((Lm r d).subset b);refine ⟨x,c,f,?_⟩;have:=Ed _ _ _ a b;unfold ue at this;rw [c] at this
 simpa using this
theorem oB(h:fF H M W n r)(g:List Int)(q:Int):jA (settled r g).SG q=if q∈g then none else jA r.SG q:=GA h.TD g q
theorem Ee(h:fF H M W n r)(c:n+1<=1000000000)(m:Int):fF H M W (n+1) (settled r (iJ r m)):=by
 have a:=h.mono (n':=n+1) (by omega) c;refine {Sz:=a.Sz,hl:=a.hl,maps:=a.maps,Uw:=a.Uw,wk:=a.wk,Uk:=a.Uk,Tv:=c,Uo:=a.Uo,Ta:=a.Ta,Ul:=a.Ul,last:=a.last,Um:=a.Um,TR:=a.TR,UL:=a.UL,TD:=h.TD.mdels _,len:= ?_,prog:=λp x b=> ?_,held:= ?_,UU:=h.UU.sublist List.filter_sublist,Ur:=λp=> ?_}
 ·have:=IV (iJ r m) r.SG;have d:=h.len
  grind [settled]
 ·rw [oB h] at b;split at b
  ·cases b
  ·exact h.prog p x b
 ·simp only [settled];rw [h.held];exact (I4 (λ(z:zU)=>z.module.Maps) _ _).symm
 ·rw [oB h];simp only [settled,List.mem_filter,zdq,h.Ur p]
  grind
theorem Co(h:fF H M W n r)(p:Int):qR r p=some (match jA r.SG p with|some x=>(x.module,true)|none=>(⟨[],[]⟩,false)):=by
 unfold qR;cases b:jA r.SG p with
 |none=>rfl
 |some x=>
  have a:=h.prog p x b;have d:x.module.Maps.length<=4:=a.2.2.1.2.2;have c:=a.2.2.2.2.1;rw [d7 (by simp)];simp only [zbs];rw [Fz _ (by omega)];unfold zS room;rw [d8 (by simp;omega)];rfl
open Go.Sx
theorem Pst.bind2{b a:Type}{o:Option b}{f:b->Option a}{R:b->Prop}{Q:a->Prop}(c:Pst o R)(h:∀x,R x->Pst (f x) Q):Pst (o.bind f) Q:=λr e=>by
 obtain ⟨x,d,g⟩:=zL e;exact h x (c x d) r g
theorem o7:type_of% @Pst.bind2:=Pst.bind2
theorem LD(h:tV H (pk i S)=some j):∃M b,qL H i S=some (j.1,M,b)/\j.2=pk M b:=by
 rw [NW] at h;obtain ⟨⟨a,M,b⟩,c,rfl⟩:=yf.1 h;exact ⟨M,b,c,rfl⟩
theorem GI(h:mH (pk i S) l=some v):∃M,jE i l S=some (v.1,M)/\v.2=pk M S:=by
 rw [IH] at h;obtain ⟨⟨e,M⟩,a,rfl⟩:=yf.1 h;exact ⟨M,a,rfl⟩
inductive Qo:zq->zm->List zk->List qT->Nat->Prop
 |stop {M M1:zq} {S S1:zm} {a:qT} {rs:List zk}:qL 2199023255552 M S=some (a,M1,S1)->a.Sm=4->M1.steps=w64 (M.steps+1)->Qo M S rs [a] 0
 | ask {M M1 M2 : zq} {S S1 : zm} {a : qT} {c : zk} {rs : List zk} {l : List qT} {n : Nat} : qL 2199023255552 M S = some (a, M1, S1) -> a.Sm = 2 -> jE M1 c S1 = some (0, M2) ->
   M2.steps=w64 (M.steps+1)->Qo M2 S1 rs l n->Qo M S (c::rs) (a::l) (n+1)
 |go {M M1:zq} {S S1:zm} {a:qT} {rs:List zk} {l:List qT} {n:Nat}:qL 2199023255552 M S=some (a,M1,S1)->a.Sm=1\/a.Sm=3->M1.steps=w64 (M.steps+1)->Qo M1 S1 rs l n->Qo M S rs (a::l) n
def QL(m:zD)(E:qt):zq:=⟨E,m,λ_=>0,λ_=>0,0,0,0⟩
theorem Jl(a:y.Maps.length*8<=140737488355328)(b:y.Code.length*40<=140737488355328)(h:jW 2199023255552 y=some (o,0,0))(E:qt)(S:zm):
  fj 2199023255552 y E S=some (some (QL y E),0,⟨⟨λ_=>0⟩,S.SQ⟩):=by
 unfold fj;rw [Ag h];simp only [zbs];rw [d7 (by simp)];simp only [bR,Ny a,Nz b,zbs];rfl
theorem LF(h:jW 2199023255552 y=some (o,d,a))(b:a≠0)(E:qt)(S:zm):
  fj 2199023255552 y E S=some (none,a,S):=by
 grind [fj,Ag]
def U5(t:zM):Prop:=u64 t.Up/\u64 t.TL/\u64 t.TZ/\u64 t.Calls/\u64 t.Sum
def wL(t u:zM):zM:=⟨xW (t.Up+u.Up),xW (t.TL+u.TL),xW (t.TZ+u.TZ),xW (t.Calls+u.Calls),xW (t.Sum+u.Sum)⟩
theorem LG(t u:zM):U5 (wL t u):=⟨xc _,xc _,xc _,xc _,xc _⟩
theorem RX(h:u64 d):xW (0+d)=d:=by rw [Int.zero_add,xY h.1 h.2]
theorem Qp(h:U5 z):mw [z,A]=some (wL z A):=by
 obtain ⟨a,b,c,d,e⟩:=h;show some (wL (wL ⟨0,0,0,0,0⟩ z) A)=_
 grind [wL,RX]
theorem FK(a:0<=h)(b:h<4):fc h=some true:=by
 grind [fc]
theorem Ry(a:0<=h)(b:h<4):ain 4 h=some h.toNat:=by grind [ain]
theorem Qq(a:0<=h)(b:h<4)(d:U5 (B.Sz h.toNat))(s c v:Int):cw B h s c v=some (0,⟨aset B.Sz h.toNat (wL (B.Sz h.toNat) ⟨1,0,s,c,v⟩)⟩):=by
 grind [cw,FK,Ry,Qp]
def FL(t:zM):zM:={t with TL:=xW (t.TL+1)}
theorem Jm(a:0<=h)(b:h<4):vP B [h]=some (0,⟨aset B.Sz h.toNat (FL (B.Sz h.toNat))⟩):=by
 unfold vP
 have e:jM (vN B [h]) (λ(c:Unit)=>(.inl ())) ([h]).length 0 ()=some (.inl ()):=by
  show vN B [h] 0 _ ()=_;unfold vN;have:idx [h] ((0:Nat):Int)=some h:=rfl;rw [this];simp only [zbs,FK a b];rfl
 have d:jM (vO [h]) (λ(s:zR)=>s) ([h]).length 0 B=some ⟨aset B.Sz h.toNat (FL (B.Sz h.toNat))⟩:=by
  show vO [h] 0 _ B=_;unfold vO;have:idx [h] ((0:Nat):Int)=some h:=rfl;rw [this];simp only [zbs,Ry a b];rfl
 grind
def QM(s:zR):Prop:=∀i,U5 (s.Sz i)
theorem QM.aset(h:QM B)(k:Nat)(a:U5 z):QM ⟨Go.Sx.aset B.Sz k z⟩:=by
 intro i;show U5 (Go.Sx.aset B.Sz k z i);unfold Go.Sx.aset;split
 ·exact a
 ·exact h i
theorem Jn(h:U5 z):U5 (FL z):=⟨h.1,xc _,h.2.2.1,h.2.2.2.1,h.2.2.2.2⟩
end Go.Proofs.YtplmgfkghomelaaGreatDoor
namespace Go.Proofs.YtplmgfkghomelaaGreatDoor.KH
open Go.Sx
variable {x f i e:Int}{a:qA}{o:zc}{l:List zt}{m:Nat}{j:qm}{d:jL}{v:List jL}{c:zH}
theorem Fm{b c:Type}{body:Nat->(b->Option c)->b->Option c}{out:b->c}{I:b->Prop}{Q:c->Prop}
  (h:∀i s (a:b->Option c),I s->(∀d,I d->Pst (a d) Q)->Pst (body i a s) Q) (f:∀s,I s->Q (out s)):
  ∀(n i:Nat)(s:b),I s->Pst (jM body out n i s) Q
 |0,i,s,e=>i4 (f s e)
 |n+1,i,s,e=>h i s _ e λd g=>Fm h f n (i+1) d g
def VM(l:List zt):Prop:=∀p∈l,u64 p.Tp
theorem z64:u64 0:=⟨by decide,by decide⟩
theorem VM.at(h:VM l):Pst (Go.Sx.idx l x) (λp=>u64 p.Tp):=λp e=>by
 unfold Go.Sx.idx at e;split at e
 ·exact h p (zmg e)
 ·cases e
theorem pm{b:qp}(h:VM b.Sq){op k:Int}(s:u64 x):Pst (jO m b op k x) (λr=>VM r.2.Sq/\u64 r.1.Tp):=by
 unfold jO;refine k6 (i4 ⟨h,z64⟩) (i8 λf=> ?_);refine o7 (R:=λo=>u64 o.Tp) (k6 (o7 h.at λp a=>i4 a) (i4 z64)) λo c=> ?_
 refine k6 (k6 (o7 (R:=VM) (λl e p a=> ?_) λl hl=>i4 ⟨hl,c⟩) (i4 ⟨h,c⟩)) ?_
 ·obtain ⟨i,j,_,_,_,_,rfl⟩:=oU e;rcases g8.1 a with a|a
  ·exact h p (R5 a)
  ·exact h p (List.mem_of_mem_drop a)
 refine i8 λg=>k6 (k6 (i4 ⟨h,z64⟩) ?_) (i4 ⟨h,c⟩)
 refine o7 (R:=λb:qp=>VM b.Sq) (k6 (o7 (R:=λq=>VM q.1) (λq e p a=> ?_) λq d=>i4 d) (i4 h)) λt n=> ?_
 ·obtain ⟨i,_,_,_,rfl⟩:=BL e;rcases g8.1 a with a|a
  ·rcases g8.1 a with a|a
   ·exact h p (R5 a)
   ·rw [i6.1 a];exact z64
  ·exact h p (List.mem_of_mem_drop a)
 refine o7 (R:=λq:Int×zk=>u64 q.1/\u64 q.2.Tp) (k6 (i4 ⟨xc _,xc _⟩) (i4 ⟨s,c⟩)) λq d=> ?_
 refine i8 λy=>i4 ⟨λp a=> ?_,d.2⟩
 rcases q7 a with a|rfl
 ·exact n p a
 ·exact d.1
theorem rh:Pst (xD m a x) (λr=>r.TG=a.TG):=by
 unfold xD;exact i8 λ_=>i4 rfl
theorem D1:Pst (xX m a x) (λr=>r.TG=a.TG):=by
 unfold xX;exact o7 rh λr h=>i8 λ_=>i4 h
theorem KZ(h:VM a.TG.Sq)(l:u64 x):Pst (dY m a f i x) (λr=>VM r.2.TG.Sq/\u64 r.1.Tp):=by
 unfold dY;refine o7 (pm h l) λr n=> ?_
 refine o7 (R:=λo:qA×zk=>VM o.1.TG.Sq/\u64 o.2.Tp) (k6 ?_ (i4 n)) λo c=> ?_
 ·refine o7 (R:=λe:qA×zk=>VM e.1.TG.Sq) ?_ λe p=>o7 (pm p l) λq t=>i4 t
  unfold cJ;refine i8 λy=>o7 (pm (b:=r.2) (op:=3) (k:=y) n.1 z64) λs u=> ?_
  exact o7 rh λd j=>i4 (by show VM d.TG.Sq;rw [j];exact u.1)
 ·refine k6 (i4 ⟨c.1,c.2⟩) (i8 λg=>k6 (o7 D1 λd j=>i4 ⟨by show VM d.TG.Sq;rw [j];exact c.1,c.2⟩) (k6 (o7 rh λd j=>i4 ⟨by show VM d.TG.Sq;rw [j];exact c.1,c.2⟩) (i4 ⟨c.1,c.2⟩)))
def shv(s:qm):List zt:=match s with
 |.inl b=>b.Sq
 |.inr a=>a.TG.Sq
theorem Gj(h:VM (shv j))(d:u64 x):Pst (jG m j f i x) (λr=>VM (shv r.2)/\u64 r.1.Tp):=by
 cases j with
 |inl b=>unfold jG;exact o7 (pm h d) λr c=>i4 c
 |inr a=>unfold jG;exact o7 (KZ h d) λr c=>i4 c
structure Gk (o:zc):Prop where
 maps:∀s∈o.maps,VM (shv s)
 Sr:∀r∈o.Sr,u64 r.Item.Tp
theorem B7(h:Gk o):Pst (jJ m o) (λq=>u64 q.1.Tj.Tp/\∀s∈q.2.2.maps,VM (shv s)):=by
 unfold jJ;refine k6 (i4 ⟨z64,h.maps⟩) ?_;refine o7 (R:=λx=>u64 x.Item.Tp) (λx e=> ?_) λx c=>i8 λy=>k6 (i8 λs=>i8 λp=>i4 ⟨z64,h.maps⟩) ?_
 ·unfold Go.Sx.idx at e;split at e
  ·exact h.Sr x (zmg e)
  ·cases e
 refine o7 (R:=λs=>VM (shv s)) (λs e=> ?_) λs d=>o7 (Gj d c) λq b=>i4 ⟨b.2,λt a=> ?_⟩
 ·unfold Go.Sx.idx at e;split at e
  ·exact h.maps s (zmg e)
  ·cases e
 ·rcases q7 a with a|rfl
  ·exact h.maps t a
  ·exact b.1
theorem D2(h:ek d=some (some j,0)):shv j=[]:=by
 unfold ek at h;split at h
 ·rcases sN d.UC with e|⟨b,e,_,a⟩
  ·rw [e] at h;cases h
  ·rw [e] at h;simp [vT] at h;subst h;exact a
 ·split at h
  ·unfold pS at h;rcases sN d.UC with e|⟨b,e,_,a⟩
   ·rw [e] at h;simp [vT] at h
   ·rw [e] at h;simp [vT] at h;subst h;exact a
  ·cases h
theorem D3(h:bW x f v=some (some o,e)):Gk o:=by
 have:Pst (bW x f v) (λq=>∀o,q.1=some o->Gk o):=by
  unfold bW;refine k6 (i4 λo e=>by cases e) ?_;refine o7 (R:=λq=>match q with|.inl o=>Gk o|.inr z=>z.1=none) (λq e=> ?_) λq a=> ?_
  ·exact Fm (I:=λo=>Gk o) (Q:=λq=>match q with|.inl o=>Gk o|.inr z=>z.1=none) (λi o g c l=>by
    unfold iF;refine i8 λd=> ?_
    intro q a;rcases B5 d with ⟨e,n,s⟩|⟨m,k,_⟩
    ·rw [n] at a;simp only [zbs,vT] at a;split at a
     ·cases a;rfl
     ·cases a
    ·have j:=D2 k;rw [k] at a;simp only [zbs,vT] at a;rw [d7 (by simp)] at a;revert q;refine i8 λ_=>l _ ⟨λt b=> ?_,c.Sr⟩
     rcases g8.1 b with b|b
     ·exact c.maps t b
     ·rw [i6.1 b,j];exact λp u=>by cases u) (λo c=>c) _ _ _ ⟨λt b=>(by cases b),λr w=>(by cases w)⟩ q e
  ·cases q with
   |inl o=>exact i4 λy e=>by cases e;exact a
   |inr z=>exact i4 λy e=>by rw [show z.1=none from a] at e;cases e
 exact this _ h o rfl
open Go.Sx
theorem Gl{fu:Nat}(t:0<=c.Sw)(C:c.Sw<=4)(v:10<fu):
  ∃o,loop (nZ c) fu ([],0)=some o/\match o with
   |.inl os=>(os.length:Int)=c.Sw/\∀(i:Nat)(x:zc),os[i]? =some x->iV x/\x.Sr=[]/\x.Sv=false/\x.Tt=c.Sw/\x.TP=i/\x.maps.length=c.Maps.length/\Gk x
   |.inr z=>z.1=none/\z.2≠0:=by
 refine lF (λm s=>(s.1.length:Int)=s.2/\s.2<=c.Sw/\s.2+m=c.Sw/\∀(i:Nat)(x:zc),s.1[i]? =some x->iV x/\x.Sr=[]/\x.Sv=false/\x.Tt=c.Sw/\x.TP=i/\(x.maps.length=c.Maps.length/\Gk x)) _ (λm s d w y=> ?_) fu c.Sw.toNat ([],0) (by omega) ⟨rfl,t,by grind,λi x h=>by simp at h⟩;obtain ⟨a,i⟩:=s;obtain ⟨g,k,l,D⟩:=w;have g:(a.length:Int)=i:=g;have k:i<=c.Sw:=k;have l:i+m=c.Sw:=l;unfold nZ;show ∃r,(if decide (i<c.Sw)=true then _ else _)=some r/\_;by_cases n:i<c.Sw
 ·rw [d8 (by simpa using n)];rcases B6 i c.Sw c.Maps with ⟨e,p,f⟩|⟨r,p,E,F,G,I,J,K,_⟩
  ·exact ⟨.inr (none,e),by grind [vT],rfl,f⟩
  ·rw [show bW (a,i).2 c.Sw c.Maps=_ from p,zbs];simp only [vT];rw [d7 (by simp)];obtain ⟨u,A⟩:=cQ (m:=a.length+[r].length) (b:=8) (by grind);rw [A,zbs,qo (by omega) (by omega)];refine y (m-1) _ (by omega) ⟨?_,?_,?_,λj x h=> ?_⟩
   ·grind
   ·grind
   ·grind
   ·have h:(a++[r])[j]? =some x:=h;rcases Nat.lt_or_ge j a.length with q|q
    ·grind
    ·rw [y5 q] at h
     have B:j-a.length=0:=by
      grind
     grind [D3]
 ·rw [d7 (by simpa using n)]
  grind
end Go.Proofs.YtplmgfkghomelaaGreatDoor.KH
namespace Go.Proofs.YtplmgfkghomelaaGreatDoor
open Go.Sx
variable {K a f:Nat}{M:zq}{m:zD}{S:zm}{j:zj}{d:zl}{q:zZ}{e:Int}{c:zk}
def P7(K:Nat)(w:zl)(s:Int):Prop:=∃m j M p i,w.SX.Ue=some M/\BM m j/\(∀x∈m.Maps,x<(K:Int))/\Run m j (pk M w.Tg) p/\M.state=s/\m.Code[p]? =some i/\(s=1->i.Op=21/\i.Tm<=4)
structure WJ (H K:Nat) (w:zl):Prop where
 told:QM w.Tz
 hook:0<=w.SX.hook/\w.SX.hook<H
 ev:u64 w.SX.Te.SK.A/\u64 w.SX.Te.SK.B
 is:w.Su=0\/w.Su=1\/(w.Su=2/\P7 K w 0)\/(w.Su=3/\P7 K w 1)
def ny(w:zl):Int:=match w.SX.Ue with
 |none=>0
 |some M=>pot M.module.Code M.Si M.SO.toNat M.module.Code.length
theorem kG{w:zl}(a:w.SX.Ue=some M)(h:Run m j (pk M w.Tg) K):ny w=pot m.Code M.Si K m.Code.length:=by
 have b:M.module=m:=h.Us;have c:M.SO=K:=h.SO
 grind [ny,pot]
theorem uz5:U5 ⟨0,0,0,0,0⟩:=⟨⟨by decide,by decide⟩,⟨by decide,by decide⟩,⟨by decide,by decide⟩,⟨by decide,by decide⟩,by decide,by decide⟩
theorem K0:u64 0/\u64 0:=⟨⟨by decide,by decide⟩,by decide,by decide⟩
theorem WJ.new{H:Nat}(h:1<=H):∃w,fa=some w/\WJ H K w/\w.Su=0/\w.SX.hook=0:=by
 refine ⟨_,rfl,⟨λi=>uz5,⟨u6 0,by grind⟩,K0,.inl rfl⟩,rfl,rfl⟩
theorem P8(h:WJ a K d)(f:a<=4)(g:d.Su=0){k:Int}(b:0<=k)(c:k<a)(e:u64 q.SK.A/\u64 q.SK.B):
  vM d k q=some (0,{d with Su:=1,SX:=⟨k,q,0,0,0,none⟩})/\WJ a K {d with Su:=1,SX:=⟨k,q,0,0,0,none⟩}:=by
 refine ⟨?_,⟨h.told,⟨b,c⟩,e,.inr (.inl rfl)⟩⟩
 grind [vM]
theorem P9(h:WJ a K d)(b:1<=a)(e:a<=4)(c:d.Su=1):
  ∃s,xG d=some (0,⟨d.Tg,s,0,⟨0,⟨0,⟨0,0⟩⟩,0,0,0,none⟩⟩)/\WJ a K ⟨d.Tg,s,0,⟨0,⟨0,⟨0,0⟩⟩,0,0,0,none⟩⟩:=by
 refine ⟨⟨aset d.Tz.Sz d.SX.hook.toNat (FL (d.Tz.Sz d.SX.hook.toNat))⟩,?_,⟨h.told.aset _ (Jn (h.told _)),⟨u6 0,by grind⟩,K0,.inl rfl⟩⟩;unfold xG;have:=h.hook;rw [d7 (by simp [c]),Jm this.1 (by omega)];rfl
theorem B8(h:WJ a K d)(l:d.Su=1)(c:m.Maps.length*8<=140737488355328)(f:m.Code.length*40<=140737488355328)(r:∀x∈m.Maps,x<(K:Int))(v p:Int):
  ∃e w,jU 2199023255552 d v p m=some (e,w)/\WJ a K w/\((e≠0/\w=d/\∃o q,jW 2199023255552 m=some (o,q,e))\/
   (e=0/\w=⟨⟨⟨λ_=>0⟩,d.Tg.SQ⟩,d.Tz,2,⟨d.SX.hook,d.SX.Te,v,p,d.SX.calls,some (QL m d.SX.Te.SK)⟩⟩/\ny w<=uU m.Code m.Code.length)):=by
 obtain ⟨o,q,e,g,s⟩:=mz m;rcases s with ⟨b,t⟩|⟨b,u,j,t,k⟩
 ·refine ⟨e,d,?_,h,.inl ⟨b,rfl,o,q,g⟩⟩;unfold jU;rw [d7 (by simp [l]),LF g b];simp only [zbs];show (if (e !=0)=true then _ else _)=_;rw [d8 (by simpa using b)]
 ·subst b u;have n:Run m j (pk (QL m d.SX.Te.SK) ⟨⟨λ_=>0⟩,d.Tg.SQ⟩) 0:=RF k h.ev d.Tg.SQ;obtain ⟨i,y,_⟩:=aS n.lt;refine ⟨0,_,?_,?_,.inr ⟨rfl,rfl,?_⟩⟩
  ·unfold jU;rw [d7 (by simp [l]),Jl c f g];rfl
  ·exact ⟨h.told,h.hook,h.ev,.inr (.inr (.inl ⟨rfl,m,j,QL m d.SX.Te.SK,0,i,rfl,k,r,n,rfl,y,λe=>by cases e⟩))⟩
  ·exact IL k.TU
theorem Gm(a:uh M.regs):Pst (jV 2199023255552 M e S) (λr=>u64 r.1.Item.Ts/\u64 r.1.Item.Tp):=by
 unfold jV;refine i8 λ_=>k6 (i8 λ_=>i8 λ_=>o7 (R:=λo=>u64 o) (k6 (i4 (a 3 (by decide))) (i4 ⟨by decide,by decide⟩)) λo h=>i4 ⟨a 2 (by decide),h⟩) ?_
 exact o7 (R:=λo:zq×zm×qT=>u64 o.2.2.Item.Ts/\u64 o.2.2.Item.Tp) (k6 (i8 λ_=>i4 K0) (i4 K0)) (λo h=>i4 h)
theorem Gn(h:uh M.regs):Pst (qL 2199023255552 M S) (λr=>u64 r.1.Item.Ts/\u64 r.1.Item.Tp):=by
 unfold qL;refine k6 (i4 K0) (k6 (i8 λ_=>i8 λ_=>i4 K0) (i8 λ_=>k6 ?_ (k6 (i8 λ_=>i4 K0) (i8 λ_=>i4 K0))))
 grind [o7,u64,Gm,w64,i4]
inductive B9 (H K:Nat) (w:zl) (a:qT) (w':zl):Prop
 |ends:a.Sm=4->w'.Su=0->w'.SX=⟨0,⟨0,⟨0,0⟩⟩,0,0,0,none⟩->B9 H K w a w'
 |asks:a.Sm=2->w'.Su=3->w'.SX.hook=w.SX.hook->w'.SX.Te=w.SX.Te->w'.SX.prog=w.SX.prog->w'.SX.SL=w.SX.SL->(0<=a.Item.Tc/\a.Item.Tc<K/\0<=a.Item.Op/\a.Item.Op<5/\u64 a.Item.Ts/\u64 a.Item.Tp)->ny w'<=ny w->B9 H K w a w'
 |goes:a.Sm=1\/a.Sm=3->w'.Su=2->w'.SX.hook=w.SX.hook->w'.SX.Te=w.SX.Te->w'.SX.prog=w.SX.prog->w'.SX.SL=w.SX.SL->ny w'+1<=ny w->B9 H K w a w'
theorem IA(I:1<=f)(Q:f<=4)(h:WJ f K d)(s:d.Su=2):∃a t,qz 2199023255552 d=some (a,true,t)/\WJ f K t/\B9 f K d a t:=by
 obtain ⟨m,j,M,p,i,F,r,v,x,J,G,_⟩:P7 K d 0:=by
  rcases h.is with e|e|e|e
  ·omega
  ·omega
  ·exact e.2
  ·omega
 obtain ⟨⟨a,L⟩,N,y,O⟩:=KB r x J G;obtain ⟨c,S,z,rfl⟩:=LD N;simp only at z;have hit:u64 a.Item.Ts/\u64 a.Item.Tp:=Gn x.u _ z;have A:d.SX.hook<4:=by have:=h.hook.2;omega
 have hl:ny d=pot m.Code M.Si p m.Code.length:=kG F x;unfold qz;rw [d7 (by simp [s]),F];simp only [zbs,z];cases y with
 |ends n b g B=>
  simp only at b;rw [d7 (by simp [b]),d8 (by simp [b])];unfold ax;simp only [zbs];rw [Qq h.hook.1 A (h.told _)];simp only [zbs];exact ⟨a,_,rfl,⟨h.told.aset _ (LG _ _),⟨u6 0,by grind⟩,K0,.inl rfl⟩,.ends b rfl rfl⟩
 |asks n b g B C D o=>
  simp only at g B C D o;rw [d8 (by simp [g])];refine ⟨a,_,rfl,{h with is:=.inr (.inr (.inr ⟨rfl,m,j,c,p,i,rfl,r,v,C,B,G,λ_=>⟨n,b⟩⟩))},.asks g rfl rfl rfl rfl rfl ⟨?_,v _ o.1,o.2.1,o.2.2,hit.1,hit.2⟩ ?_⟩
  ·exact (r.goodM.1 _ o.1).1
  ·rw [hl];show ny ⟨S,d.Tz,3,⟨d.SX.hook,d.SX.Te,d.SX.SL,d.SX.prog,xW (d.SX.calls+1),some c⟩⟩<=_;rw [kG (w:=⟨S,d.Tz,3,⟨d.SX.hook,d.SX.Te,d.SX.SL,d.SX.prog,xW (d.SX.calls+1),some c⟩⟩) rfl C];have D:c.Si=M.Si:=D
   grind
 |goes n b g=>
  simp only at n b g;obtain ⟨q,k,l,_⟩:=g;have l:pot m.Code c.Si q m.Code.length+1<=pot m.Code M.Si p m.Code.length:=l;obtain ⟨P,E,_⟩:=aS k.lt;rw [d7 (by simp;omega),d7 (by simp;omega)];refine ⟨a,_,rfl,⟨h.told,h.hook,h.ev,.inr (.inr (.inl ⟨s,m,j,c,q,P,rfl,r,v,k,b,E,λe=>by cases e⟩))⟩,.goes n s rfl rfl rfl rfl ?_⟩;rw [hl,kG (w:=⟨S,d.Tz,d.Su,⟨d.SX.hook,d.SX.Te,d.SX.SL,d.SX.prog,d.SX.calls,some c⟩⟩) rfl k];exact l
theorem kH(h:WJ a K d)(x:d.Su=3)(y:u64 c.Tp):∃g,xh d c=some (0,g)/\WJ a K g/\g.Su=2/\g.SX.hook=d.SX.hook/\g.SX.Te=d.SX.Te/\g.SX.prog=d.SX.prog/\g.SX.SL=d.SX.SL/\ny g+1<=ny d:=by
 obtain ⟨m,j,M,p,i,o,r,z,t,A,B,l⟩:P7 K d 1:=by
  rcases h.is with e|e|e|e
  ·omega
  ·omega
  ·omega
  ·exact e.2
 obtain ⟨l,C⟩:=l rfl;obtain ⟨⟨e,D⟩,E,u,s,q,b,f,_⟩:=H9 r t A B l C y;obtain ⟨k,v,rfl⟩:=GI E;simp only at v u s b f;have f:pot m.Code k.Si q m.Code.length+1<=pot m.Code M.Si p m.Code.length:=f;have s:k.state=0:=s;subst u;obtain ⟨F,n,_⟩:=aS b.lt;unfold xh;rw [d7 (by simp [x]),o];simp only [zbs,v];refine ⟨_,rfl,⟨h.told,h.hook,h.ev,.inr (.inr (.inl ⟨rfl,m,j,k,q,F,rfl,r,z,b,s,n,λe=>by cases e⟩))⟩,rfl,rfl,rfl,rfl,rfl,?_⟩;rw [kG o t,kG (w:={d with Su:=2,SX:=⟨d.SX.hook,d.SX.Te,d.SX.SL,d.SX.prog,d.SX.calls,some k⟩}) rfl b];exact f
end Go.Proofs.YtplmgfkghomelaaGreatDoor
namespace Go.Proofs.YtplmgfkghomelaaGreatDoor.KH
open Go.Sx
variable {i a:Nat}{c:zH}{w0:zl}{l:List zO}{ss:List (List zO)}{n:Int}{o:zc}{r:zp}
theorem mB{a:Type}{l:List a}{x:a}(h:l[i]? =some x):l.take (i+1)=l.take i++[x]:=by
 rw [x6,h];rfl
def mC(w:zl):zz:=⟨w,0,0,none,false⟩
def QF:zC:=⟨0,0,[],[]⟩
def C1(s:List zO):ze:=⟨s,0,false,0,QF,[],[]⟩
theorem Ii(h:fa=some w0)(t:0<=c.Sl)(v:c.Sl<=4)(g:10<a):
  loop (lh c) a ([],0)=some (List.replicate c.Sl.toNat (mC w0)):=by
 obtain ⟨r,j,rfl⟩:=lF (body:=lh c) (λm s=>∃n:Nat,s.2=(n:Int)/\s.1=List.replicate n (mC w0)/\(n:Int)+m=c.Sl) (λr=>r=List.replicate c.Sl.toNat (mC w0)) (λm s d k o=>by
  obtain ⟨l,i⟩:=s;obtain ⟨n,e,f,w⟩:=k;have e:i=(n:Int):=e;have f:l=List.replicate n (mC w0):=f;subst e f;unfold lh;show ∃r,(if decide ((n:Int)<c.Sl)=true then _ else _)=some r/\_;by_cases p:(n:Int)<c.Sl
  ·rw [d8 (by simpa using p),h,zbs];obtain ⟨u,q⟩:=cQ (m:=(List.replicate n (mC w0)).length+[mC w0].length) (b:=8) (by grind);rw [show room ((List.replicate n (mC w0),(n:Int)).1.length+[zz.mk w0 0 0 none false].length) 8=some u from q,zbs,qo (by omega) (by omega)];refine o (m-1) _ (by omega) ⟨n+1,by grind,?_,by omega⟩;show List.replicate n (mC w0)++[mC w0]=_;rw [List.replicate_succ']
  grind) a c.Sl.toNat ([],0) (by omega) ⟨0,rfl,rfl,by omega⟩
 exact j
structure Fit (c:zO):Prop where
 items:c.SV.length*32<=140737488355328
 Us:c.SM.length<=140737488355328
 ev:u64 c.SK.A/\u64 c.SK.B
 it:u64 c.Item.Tp
 its:∀i∈c.SV,u64 i.Tp
theorem DF(l:List zO)(h:∀c∈l,Fit c):(l.foldlM (λ(_:Unit)c=>(zG c.SV).bind λ_=>(qQ c.SM).bind λ_=>some ()) ())=some ():=by
 induction l with
 |nil=>rfl
 |cons c l i=>
  have a:=h c zcs;obtain ⟨u,d⟩:=cQ (m:=([]:List zg).length+c.SV.length) (b:=32) (by have:=a.items;simpa using this);obtain ⟨v,e⟩:=cQ (m:=([]:List Int).length+c.SM.length) (b:=1) (by have:=a.Us;simpa using this);rw [List.foldlM_cons];unfold zG qQ;rw [d,e];exact i λx f=>h x (zcm _ f)
theorem Ij(hl:l.length<=64)(h:∀c∈l,Fit c):bX l=some l:=by
 unfold bX;obtain ⟨u,a⟩:=cQ (m:=0+l.length) (b:=128) (by omega)
 grind [zG,qQ,DF]
theorem DH(p:ss.length<=4)(j:∀s∈ss,∀c∈s,Fit c):
  ∃o,jM (oa ss) (λ(s:List ze)=>(.inl s)) ss.length 0 ([]:List ze)=some o/\match o with
   |.inl l=>l=ss.map C1/\∀s∈ss,s.length<=64
   |.inr z=>z.1=none/\z.2≠0:=by
 refine nf (N:=ss.length) (λi l=>l=(ss.take i).map C1/\∀s∈ss.take i,s.length<=64) _ (λi s a d e k=> ?_) (λs h=> ?_) ss.length 0 [] (by omega) ⟨rfl,λs h=>by simp at h⟩
 ·obtain ⟨rfl,e⟩:=e;unfold oa;rw [nO d,zbs];have f:ss[i]? =some ss[i]:=zeg d;by_cases g:((ss[i].length:Nat):Int)>64
  ·rw [d8 (by simpa using g)]
   grind
  ·rw [d7 (by simpa using g),Ij (by omega) (j _ (yn d)),zbs];obtain ⟨u,n⟩:=cQ (m:=((ss.take i).map C1).length+[C1 ss[i]].length) (b:=8) (by grind);rw [show room (((ss.take i).map C1).length+[ze.mk ss[i] 0 false 0 (zC.mk 0 0 ([]:List zk) ([]:List zt)) ([]:List (List zt)) ([]:List zC)].length) 8=some u from n,zbs];refine k _ ⟨?_,λs h=> ?_⟩
   ·show (ss.take i).map C1++[C1 ss[i]]=_;rw [mB f,t9];rfl
   ·rw [mB f] at h
    grind
 grind
structure KF (c:zH) (ss:List (List zO)) (h:za):Prop where
 hk:1<=c.SA/\c.SA<=4
 wk:1<=c.Sl/\c.Sl<=4
 sh:1<=c.Sw/\c.Sw<=4
 mp:c.Maps.length<=4
 cl:1<=ss.length/\ss.length<=4
 sl:∀s∈ss,s.length<=64
 is:∃r os rs w0,fa=some w0/\fF c.SA.toNat c.Maps.length c.Sl.toNat 0 r/\r.Ta=0/\r.SF.SU.last=0/\(r.SG=[]/\∀u∈r.SF.Sz,u.SL=0)/\r.waiting=[]/\r.SC.in_=List.replicate c.Sl.toNat 0/\
  ((os.length:Int)=c.Sw/\∀(i:Nat)(x:zc),os[i]? =some x->iV x/\x.Sr=[]/\x.Sv=false/\x.Tt=c.Sw/\x.TP=i/\x.maps.length=c.Maps.length/\Gk x)/\
  ((rs.length:Int)=c.SA/\∀r∈rs,kF r/\r.waiting=[]/\r.TK=false/\r.room=c.Td/\r.Sj=⟨0,0,0,0,0⟩)/\
  h=⟨r,⟨List.replicate (ss.length+c.Sl.toNat+c.Sw.toNat+1) ⟨0,0⟩,0⟩,c,ss.map C1,List.replicate c.Sl.toNat (mC w0),os,rs,[],[],0,false,false,[],⟨0⟩⟩
theorem DI{fu:Nat}(b:10<fu)(c:zH)(ss:List (List zO))(x:∀s∈ss,∀c∈s,Fit c):
  (∃e,ep fu c ss=some (none,e)/\e≠0)\/∃h,ep fu c ss=some (some h,0)/\KF c ss h:=by
 by_cases n:¬ (1<=c.SA/\c.SA<=4/\0<=(c.Maps.length:Int)/\(c.Maps.length:Int)<=4/\1<=c.Sl/\c.Sl<=4)
 ·refine .inl ⟨2,?_,by decide⟩;unfold ep;rw [Ob n];rfl
 obtain ⟨y,o,P,Q,A,p⟩:=Classical.not_not.1 n;obtain ⟨r,q,B,C,D,E,F,G⟩:=Qf (H:=c.SA.toNat) (M:=c.Maps.length) (W:=c.Sl.toNat) (by omega) (by omega) (by omega) (by omega) (by omega);rw [show ((c.SA.toNat:Nat):Int)=c.SA by omega,show ((c.Sl.toNat:Nat):Int)=c.Sl by omega] at q;by_cases R:c.Sw<1\/c.Sw>4\/(ss.length:Int)<1\/(ss.length:Int)>4
 ·refine .inl ⟨2,?_,by decide⟩
  grind [ep,vT]
 have a:(1<=c.Sw/\c.Sw<=4)/\1<=ss.length/\ss.length<=4:=by omega
 have key:(∃e,ep fu c ss=some (none,e)/\e≠0)\/∃h,ep fu c ss=some (some h,0)/\KF c ss h:=by
  unfold ep;rw [q,zbs];simp only [vT];rw [d7 (by grind)];obtain ⟨I,j,t⟩:=Iz (c:=c) (fu:=fu) (by omega) o b;rw [j,zbs];cases I with
  |inr z=>obtain ⟨u,d⟩:=z;obtain ⟨v,f⟩:=t;exact .inl ⟨d,by grind,f⟩
  |inl J=>
   simp only;obtain ⟨L,k,w⟩:=Gl (c:=c) (fu:=fu) (by omega) a.1.2 b;rw [k,zbs];cases L with
   |inr z=>obtain ⟨u,d⟩:=z;obtain ⟨v,f⟩:=w;exact .inl ⟨d,by grind,f⟩
   |inl os=>
    simp only;obtain ⟨w0,g,_⟩:=WJ.new (H:=1) (K:=0) (k9 1);rw [Ii g (by omega) p b,zbs];obtain ⟨N,m,i⟩:=DH a.2.2 x;rw [m,zbs];cases N with
    |inr z=>obtain ⟨u,d⟩:=z;obtain ⟨v,f⟩:=i;exact .inl ⟨d,by grind,f⟩
    |inl l=>
     obtain ⟨rfl,i⟩:=i;simp only
     have O:na (w64 ((w64 ((w64 (((ss).length:Int)+c.Sl))+c.Sw))+1))=some (some ⟨List.replicate (ss.length+c.Sl.toNat+c.Sw.toNat+1) ⟨0,0⟩,0⟩,0):=by
      grind [qo,na,mkLen]
     rw [O,zbs];exact .inr ⟨_,rfl,⟨y,o⟩,⟨A,p⟩,a.1,by omega,a.2,i,r,os,J,w0,g,B,C,D,E,F,G,w,t,rfl⟩
 exact key
open Go.Sx
theorem Am{k:Int}(e:1<=n)(f:n<=4):∃i:Nat,av k n=some (i:Int)/\(i:Int)<n:=by
 unfold av;rw [d7 (by simp;omega)];have a:nz (xW n)=some ():=by grind [nz,Ax]
 rw [a,zbs,Ax (x:=n) (by omega) (by omega)];generalize c:iN .u64 (xW (k*11400714819323198485)) 32=b
 have h:0<=b:=by
  have d:=(xc (k*11400714819323198485)).1;rw [<- c];show 0<=(xW (k*11400714819323198485)).fdiv (2^(min (Int.toNat 32) IntKind.u64.bits));rw [Int.fdiv_eq_ediv_of_nonneg _ (by grind)];exact Int.ediv_nonneg d (Int.le_of_lt (Int.pow_pos (by decide)))
 have g:=Int.tmod_lt_of_pos b (show 0<n by omega);have j:=Int.tmod_nonneg n h;rw [qo (by omega) (by omega)];exact ⟨(b.tmod n).toNat,by grind,by omega⟩
theorem Ik(h:o.Sv=false)(a:0<=r.Item.Tc)(c:r.Item.Tc<o.maps.length)(g:r.TQ=true\/(0<=r.Item.Op/\r.Item.Op<5/\av r.Item.Ts o.Tt=some o.TP))
  (d:(o.Sr.length+1)*56<=140737488355328):jI o [r]=some (0,{o with Sr:=o.Sr++[r]}):=by
 have e:xN o r=some true:=by
  grind [xN]
 have f:Go.Sx.idx [r] ((0:Nat):Int)=some r:=rfl;unfold jI;rw [d7 (by simp [h])];simp only [u7,y4,jM,gU,f,zbs,e];obtain ⟨u,i⟩:=cQ (m:=o.Sr.length+1) (b:=56) d
 grind
end Go.Proofs.YtplmgfkghomelaaGreatDoor.KH
