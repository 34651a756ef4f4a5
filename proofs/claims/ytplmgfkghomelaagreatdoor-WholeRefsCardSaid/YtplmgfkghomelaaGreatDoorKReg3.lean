/- Lemmas. -/
import Derived.Test.YtplmgfkghomelaaGreatDoorKEng
set_option linter.all false
namespace Go.Proofs.YtplmgfkghomelaaGreatDoor
open Go.Sx
variable {H M W n:Nat}{r:zb}{b:Type}{h d a:Int}{m:List (Int×b)}{S:zm}{o:Option zj}{q:Int×zC}{c:zG}{x:zS}{i:zt}{j:qT×EM}{l:zk}{v:Int×EM}{y:zE}{z A:zP}{B:zU}
theorem uK(h:fK H M W n r)(k:Int):OK (xR r.Us [k]) (λq=>(q.1≠0/\q.2=r.Us)\/(q.1=0/\∃l,(l.length=r.Us.Uk.length/\∀(i:Nat) u,l[i]? =some u->u.Ux=0\/r.Us.Uk[i]? =some u)/\q.2=⟨r.Us.UB,l⟩)):=by
 unfold xR;refine d6 (i5 (Q:=λo=>match o with|.inl _=>0<=k/\k<r.Us.Uk.length|.inr q=>q=(2,r.Us)) (λi _=>i=0\/0<=k/\k<r.Us.Uk.length) (.inl rfl) (λi s a d c f=> ?_) (λs c=> ?_)) (λo b=> ?_)
 ·have e:i=0:=by simp at d;omega
  subst e;unfold fZ jg;simp only [idx,TH,l6,zbs,Int.natCast_zero,x4,q9,Int.toNat_zero];refine d6 (R:=λo=>o=false->0<=k/\k<r.Us.Uk.length) (d5 (λ_=>b9 (λe=>by cases e)) (λz=> ?_)) (λo b=>d5 (λ_=>b9 rfl) (λm=>f _ (.inr (b m))))
  grind [cut,fM,b9]
 ·grind
 ·cases o with
  |inr q=>exact b9 (.inl ⟨by rw [b];simp,by rw [b]⟩)
  |inl u=>
   obtain ⟨x,A,p⟩:=ph (l:=r.Us.Uk) b.1 b.2;refine d6 (i5 (Q:=λo=>match o with|.inl _=>True|.inr q=>q=(41,r.Us)) (λi _=>True) trivial (λi s a d c f=> ?_) (λs c=>trivial)) (λo g=> ?_)
   ·have e:i=0:=by simp at d;omega
    subst e;unfold ga jh;simp only [idx,TH,zbs,Int.natCast_zero,x4,q9,Int.toNat_zero];rw [show (if 0<=k then r.Us.Uk[k.toNat]? else none)=some x from by grind];simp only [zbs];exact d5 (λ_=>b9 rfl) (λ_=>f _ trivial)
   ·cases o with
    |inr q=>exact b9 (.inl ⟨by rw [g];simp,by rw [g]⟩)
    |inl u=>
     refine d6 (i5 (Q:=λt=>∃l,(l.length=r.Us.Uk.length/\∀(i:Nat) u,l[i]? =some u->u.Ux=0\/r.Us.Uk[i]? =some u)/\t=⟨r.Us.UB,l⟩) (λi t=>∃l,(l.length=r.Us.Uk.length/\∀(i:Nat) u,l[i]? =some u->u.Ux=0\/r.Us.Uk[i]? =some u)/\t=⟨r.Us.UB,l⟩) ⟨_,⟨rfl,λ_ _ j=>.inr j⟩,rfl⟩ (λi s a d c f=> ?_) (λs c=>c)) (λt v=>b9 (.inr ⟨rfl,v⟩));have e:i=0:=by simp at d;omega
     subst e;obtain ⟨l,hl,rfl⟩:=c;unfold gf;obtain ⟨y,w,_⟩:=ph (l:=l) b.1 (by rw [hl.1];exact b.2)
     rw [show idx [k] ((0:Nat):Int)=some k from rfl];simp only [zbs,w];refine f _ ⟨_,⟨by rw [j8];exact hl.1,λi u j=> ?_⟩,rfl⟩
     rw [y7] at j
     grind
theorem Hj(h:fK H M W n r)(a:n+1<=1000000000)(b:(q.1≠0/\q.2=r.Us)\/(q.1=0/\∃l,(l.length=r.Us.Uk.length/\∀(i:Nat) u,l[i]? =some u->u.Ux=0\/r.Us.Uk[i]? =some u)/\q.2=⟨r.Us.UB,l⟩)):fK H M W (n+1) (Hg r q.2):=by
 have c:=h.VT;have d:=h.last;rcases b with ⟨_,e⟩|⟨_,l,hl,e⟩
 ·rw [e];exact h.mono (by omega) a
 ·rw [e];exact CM h a (by rw [hl.1];exact h.hl) c (by simp;omega)
def Hk(r:zb)(c:zG):zb:={r with Uo:=c}
theorem CO(h:fK H M W n r)(a:n+1<=1000000000)(b:c.in_.length=W)(g:r.Uo.Vs<=c.Vs)(i:c.Vs<=r.Uo.Vs+1)(d:∀e∈c.in_,0<=e/\e<=c.Vs):fK H M W (n+1) (Hk r c):=
 {h.mono (n':=n+1) (by omega) a with wk:=b,VU:=by have:=h.VU;simp [Hk];omega,Vs:=by have:=h.Vs;simp [Hk];omega,Wu:=d,prog:=λp x f=>by have:=h.prog p x f;exact ⟨this.1,this.2.1,this.2.2.1,this.2.2.2.1,this.2.2.2.2.1,this.2.2.2.2.2.1,by simp [Hk];omega⟩}
theorem A9(h:fK H M W n r)(k:Int):OK (vq r.Uo k) (λq=>(q.2.1≠0/\q.1=0/\q.2.2=r.Uo)\/(q.2.1=0/\q.1≠0/\0<=k/\k<W/\r.Uo.in_[k.toNat]? =some 0/\q.2.2=⟨r.Uo.Vs,r.Uo.in_.set k.toNat r.Uo.Vs⟩)):=by
 unfold vq vp;simp only [zbs];refine d5 (λ_=>b9 (.inl ⟨by simp,rfl,rfl⟩)) (λa=> ?_);simp only [Bool.not_eq_false',zae,zdq] at a;obtain ⟨x,b,c⟩:=ph (l:=r.Uo.in_) a.1 a.2;rw [b];simp only [zbs];refine d5 (λ_=>b9 (.inl ⟨by simp,rfl,rfl⟩)) (λd=>b9 (.inr ⟨rfl,?_,a.1,by rw [<- h.wk];exact a.2,?_,rfl⟩))
 ·have:=h.VU;simp;omega
 grind
theorem JP(h:fK H M W n r)(b:n+1<=1000000000)(k:Int):fK H M W (n+1) (Hk r ⟨r.Uo.Vs,r.Uo.in_.set k.toNat r.Uo.Vs⟩):=by
 refine CO h b (by simp [h.wk]) (x4 _) (by simp;omega) (λe c=> ?_);have d:=h.VU;rcases r9 c with a|a
 ·exact h.Wu e a
 grind
theorem Ba(h:fK H M W n r)(k:Int):OK (vr r.Uo [k]) (λq=>(q.1≠0/\q.2=r.Uo/\(0<=k->k<W->r.Uo.in_[k.toNat]? =some 0))\/(q.1=0/\0<=k/\k<W/\q.2=⟨r.Uo.Vs,r.Uo.in_.set k.toNat 0⟩)):=by
 have C:=h.VS;unfold vr;refine d6 (i5 (Q:=λo=>match o with|.inl _=>0<=k/\k<W|.inr q=>q=(2,r.Uo)/\¬ (0<=k/\k<W)) (λi f=>(i=0/\f=λ_=>false)\/(i=1/\0<=k/\k<W)) (.inl ⟨rfl,rfl⟩) (λi s a g d j=> ?_) (λs d=> ?_)) (λo b=> ?_)
 ·have e:i=0:=by simp at g;omega
  subst e;unfold gB vp;rw [show idx [k] ((0:Nat):Int)=some k from rfl];simp only [zbs];by_cases p:0<=k/\k<W
  ·have D:ain 4 k=some k.toNat:=by unfold ain;rw [d7 ⟨p.1,by omega⟩]
   have v:(!(decide (k>=0)&&decide (k<(r.Uo.in_.length:Int))))=false:=by rw [h.wk];simp;omega
   grind
  ·have v:(!(decide (k>=0)&&decide (k<(r.Uo.in_.length:Int))))=true:=by rw [h.wk];simp;omega
   grind [b9]
 ·grind
 ·cases o with
  |inr q=>exact b9 (.inl ⟨by rw [b.1];simp,by rw [b.1],λw y=>absurd ⟨w,y⟩ b.2⟩)
  |inl u=>
   obtain ⟨x,z,m⟩:=ph (l:=r.Uo.in_) b.1 (by rw [h.wk];exact b.2)
   refine d6 (i5 (Q:=λo=>match o with|.inl _=>True|.inr q=>q=(41,r.Uo)/\x=0) (λi _=>True) trivial (λi s a g d j=> ?_) (λs d=>trivial)) (λo c=> ?_)
   ·have e:i=0:=by simp at g;omega
    subst e;unfold gC;rw [show idx [k] ((0:Nat):Int)=some k from rfl];simp only [zbs,z];exact d5 (λA=>b9 ⟨rfl,by simpa using A⟩) (λ_=>j _ trivial)
   ·cases o with
    |inr q=>exact b9 (.inl ⟨by rw [c.1];simp,by rw [c.1],λ_ _=>by rw [m,c.2]⟩)
    |inl u=>
     refine d6 (i5 (Q:=λt=>t=⟨r.Uo.Vs,r.Uo.in_.set k.toNat 0⟩) (λi t=>(i=0/\t=r.Uo)\/(i=1/\t=⟨r.Uo.Vs,r.Uo.in_.set k.toNat 0⟩)) (.inl ⟨rfl,rfl⟩) (λi s a g d j=> ?_) (λs d=> ?_)) (λt B=>b9 (.inr ⟨rfl,b.1,b.2,B⟩))
     ·grind [gD,idx]
     grind
theorem JQ(h:fK H M W n r)(b:n+1<=1000000000)(k:Int):fK H M W (n+1) (Hk r ⟨r.Uo.Vs,r.Uo.in_.set k.toNat 0⟩):=by
 refine CO h b (by simp [h.wk]) (x4 _) (by simp;omega) (λe c=> ?_);have d:=h.VU;rcases r9 c with a|a
 ·exact h.Wu e a
 grind
theorem Hl(h:fK H M W n r):vE r.Uo=some (r.Uo.Vs+1,⟨r.Uo.Vs+1,r.Uo.in_⟩):=by
 have a:=h.VU;have b:=h.Vs;have c:=h.UZ
 grind [vE,gG]
theorem JR(c:zG)(e:Int)(hl:c.in_.length<=140737488355328):vM c e=some (decide (∀x∈c.in_,x=0\/e<=x)):=by
 unfold vM;have h:room c.in_.length 1=some ():=by grind [room]
 rw [h];simp only [zbs];refine OK.is (d6 (i5 (Q:=λo=>match o with|.inl _=>∀x∈c.in_,x=0\/e<=x|.inr q=>q=false/\¬ ∀x∈c.in_,x=0\/e<=x) (λi _=>∀x∈c.in_.take i,x=0\/e<=x) (by simp) (λi s b g j k=> ?_) (λs j=>by grind)) (λo m=> ?_))
 ·unfold ie;refine g9 (i9 g (λx d=>d5 (λf=>b9 ⟨rfl,λa=> ?_⟩) (λf=>k _ ?_)))
  ·have:=a x (zmg d);simp at f;omega
  ·intro y l;rw [yh,d] at l
   grind
 grind [b9]
open Go.Sx
theorem Mg(h:fK H M W n r)(p:Int):OK (aO r.Us [p]) (λl=>l.length<=4/\(l=[]->∀(i:Nat) u,r.Us.Uk[i]? =some u->0<u.Ux->u.prog≠p)):=by
 have v:=h.VS;have hl:=h.hl;unfold aO;refine d6 (i5 (Q:=λl=>l.length<=4/\(l=[]->∀(i:Nat) u,r.Us.Uk[i]? =some u->0<u.Ux->u.prog≠p)) (λi l=>l.length<=i/\(l=[]->∀(j:Nat) u,j<i->r.Us.Uk[j]? =some u->0<u.Ux->u.prog≠p)) ⟨by simp,λ_ j u d=>by omega⟩ (λi s b f c k=> ?_) (λs c=>⟨by omega,λe j u a=>c.2 e j u (zes.1 a).1 a⟩)) (λl h=>b9 h);unfold gF;refine g9 (i9 f (λx g=> ?_));simp only [fM,zbs];refine d6 (R:=λo=>o=false->0<x.Ux->x.prog≠p) (d5 (λ_=>b9 (by simp;exact λz _=>z)) (λ_=>b9 (by grind))) (λo m=>d5 (λ_=> ?_) (λe=>k _ ⟨by omega,λq j u d a=> ?_⟩))
 ·refine g9 (OK.hasRoom (by simp;omega) (k _ ⟨by simp;omega,λe=>by simp at e⟩))
 ·by_cases t:j=i
  ·subst t;rw [g] at a;cases a;exact m e
  ·exact c.2 q j u (by omega) a
def retired(r:zb)(p:Int)(x:zS):zb:=
 {r with Uo:=⟨r.Uo.Vs+1,r.Uo.in_⟩,Uj:=wn r.Uj p ⟨x.module,r.Uo.Vs+1⟩,waiting:=r.waiting++[p]}
theorem iF(h:fK H M W n r)(p:Int):OK (qS r p) (λq=>(q.2.1≠0/\q.1=0/\q.2.2=r)\/(q.2.1=0/\q.1=r.Uo.Vs+1/\∃x,ja r.Uj p=some x/\x.UD=0/\(∀(i:Nat) u,r.Us.Uk[i]? =some u->0<u.Ux->u.prog≠p)/\q.2.2=retired r p x)):=by
 unfold qS;cases c:ja r.Uj p with
 |none=>exact o9 rfl (b9 (.inl ⟨by simp,rfl,rfl⟩))
 |some x=>
  refine j7 rfl ?_;simp only [zbs];refine d5 (λ_=>b9 (.inl ⟨by simp,rfl,rfl⟩)) (λd=> ?_);refine d6 (Mg h p) (λl a=>d5 (λ_=>b9 (.inl ⟨by simp,rfl,rfl⟩)) (λb=> ?_));rw [Hl h];simp only [zbs];have e:=h.wlen;have hl:=h.len;refine g9 (OK.hasRoom (by simp;omega) (b9 (.inr ⟨rfl,rfl,x,rfl,?_,a.2 (by cases l<;>simp at b |-),rfl⟩)));have:=(h.prog p x c).2.2.2.2.2.1;simp at d;omega
theorem EP(h:fK H M W n r)(g:n+1<=1000000000)(j:ja r.Uj d=some x)(p:x.UD=0):fK H M W (n+1) (retired r d x):=by
 have s:=h.Vs;have k:=h.VU
 have c:∀q,ja (retired r d x).Uj q=if d=q then some ⟨x.module,r.Uo.Vs+1⟩ else ja r.Uj q:=by
  grind [retired,uJ]
 refine {h.mono (n':=n+1) (by omega) g with VU:=by grind [retired],Vs:=by grind [retired],Wu:=λe l=> ?_,Vc:= ?_,len:= ?_,prog:= ?_,held:= ?_,Wx:= ?_,VX:= ?_}
 ·have:=h.Wu e l
  grind [retired]
 ·unfold DC;rw [show (retired r d x).Uj.map (·.1)=r.Uj.map (·.1) from Gb _ _ _];exact h.Vc
 ·rw [show (retired r d x).Uj.length=r.Uj.length from Mb _ _ _];exact h.len
 ·intro q y f;rw [c] at f;split at f
  ·rename_i e
   subst e;cases f;have:=h.prog d x j
   grind [retired]
  ·have:=h.prog q y f
   grind [retired]
 ·show r.UY.held=_;rw [h.held];exact (JN (λ(z:zS)=>z.module.Maps) r.Uj d ⟨x.module,r.Uo.Vs+1⟩ x j rfl).symm
 ·refine k6.2 ⟨h.Wx,by simp,λa m b g e=> ?_⟩;simp at g;subst g;subst e;obtain ⟨y,f,o⟩:=(h.VX a).1 m
  grind
 ·intro q;rw [c];show q∈r.waiting++[d]↔_;simp only [f8,g8];by_cases e:d=q
  ·subst e;simp;omega
  ·have i:¬ q=d:=λi=>e i.symm
   simp only [i,or_false,d8 e];exact h.VX q
def ol(r:zb)(p:Int):Bool:=match ja r.Uj p with
 |some x=>decide (∀e∈r.Uo.in_,e=0\/x.UD<=e)
 |none=>false
def iQ(P:Int->Bool)(k:Int):List Int->List Int
 |[]=>[]
 |x::l=>if 0<k/\P x=true then x::iQ P (k-1) l else iQ P k l
theorem uL(P:Int->Bool):∀(l:List Int)(k:Int),(iQ P k l).Sublist l
 |[],_=>List.Sublist.refl _
 |x::l,k=>by
  unfold iQ;split
  ·exact (uL P l _).cons_cons x
  ·exact (uL P l _).cons x
theorem EQ(P:Int->Bool):∀(l:List Int)(k:Int),∀x∈iQ P k l,P x=true
 |[],_=>λx h=>by cases h
 |y::l,k=>λx h=>by
  unfold iQ at h;split at h
  ·rename_i a
   rcases j5.1 h with rfl|h
   ·exact a.2
   ·exact EQ P l _ x h
  ·exact EQ P l _ x h
theorem se(P:Int->Bool)(x:Int):∀(l:List Int)(k:Int),iQ P k (l++[x])=iQ P k l++(if ((iQ P k l).length:Int)<k/\P x=true then [x] else [])
 |[],k=>by
  grind [iQ]
 |y::l,k=>by
  simp only [Ts,iQ];split
  ·rename_i h
   rw [se P x l (k-1)]
   grind
  ·exact se P x l k
def gn(r:zb)(m:Int):List Int:=iQ (ol r) m r.waiting
theorem JT(h:fK H M W n r)(m:Int):OK (jN (vC r m) (λ(s:List Int)=>s) r.waiting.length 0 []) (λl=>l=gn r m):=by
 have q:=h.wlen;have hl:=h.len;refine i5 (λi s=>s=iQ (ol r) m (r.waiting.take i)/\s.length<=i) ⟨by simp [iQ],by simp⟩ (λi s b f a k=> ?_) (λs a=> ?_)
 ·obtain ⟨rfl,g⟩:=a;unfold vC;refine g9 (i9 f (λx d=> ?_));obtain ⟨y,j,_⟩:=(h.VX x).1 (zmg d);have t:ol r x=decide (∀e∈r.Uo.in_,e=0\/y.UD<=e):=by grind [ol]
  have u:iQ (ol r) m (r.waiting.take (i+1))=iQ (ol r) m (r.waiting.take i)++(if ((iQ (ol r) m (r.waiting.take i)).length:Int)<m/\ol r x=true then [x] else []):=by
   rw [eP d,se]
  simp only [j,zbs,JR _ _ (show r.Uo.in_.length<=140737488355328 by have v:=h.wk;have w:=h.VS;omega)];refine d6 (R:=λo=>o=decide (((iQ (ol r) m (r.waiting.take i)).length:Int)<m/\ol r x=true)) (d5 (λc=>b9 ?_) (λc=>b9 ?_)) (λo p=> ?_)
  ·grind
  ·grind
  ·subst p;refine d5 (λc=>g9 (OK.hasRoom (by simp;omega) (k _ ?_))) (λc=>k _ ?_)
   ·grind
   grind
 ·rw [TF] at a;exact a.1
theorem uM(l:List Int)(x:Int):jj x l=some (decide (x∈l)):=by
 grind [jj,fM]
theorem Mh(g:List Int)(p:List Int)(E:p.length<=16)(r:Nat)(F:r<p.length)(a:∃x,p[r]? =some x/\x∈g)(u:∀j,j<r->∀x,p[j]? =some x->x∉g):
  OK (loop (xq g) 2199023255552 (p,(r:Int),((r:Int)+1))) (λo=>o.1.length=p.length/\∃k:Nat,o.2=(k:Int)/\k<=p.length/\o.1.take k=p.filter (λx=>decide (x∉g))):=by
 refine OK.rounds (λs=>s.1.length=p.length/\∃k j:Nat,s.2.1=(k:Int)/\s.2.2=(j:Int)/\k<j/\j<=p.length/\s.1.take k=(p.take j).filter (λx=>decide (x∉g))/\s.1.drop j=p.drop j) (λs=>p.length-s.2.2.toNat) ?_ 2199023255552 _ ?_ (by simp;omega)
 ·rintro ⟨s,G,I⟩ c ⟨h,k,j,b,v,J,K,w,d⟩ z;simp only at b v h w d;subst b;subst v;unfold xq;simp only [h];by_cases C:j<p.length
  ·refine o9 (by simp;omega) ?_;refine g9 (i9 (by omega) (λx a=> ?_))
   have f:p[j]? =some x:=by
    have e:=congrArg (λl=>l[0]?) d
    grind
   rw [uM];simp only [zbs];have D:w64 ((j:Int)+1)=((j+1:Nat):Int):=by grind [gG]
   have i:w64 ((k:Int)+1)=((k+1:Nat):Int):=by grind [gG]
   have A:s.drop (j+1)=p.drop (j+1):=by
    have e:=congrArg (List.drop 1) d
    simpa [y4] using e
   have m:p.take (j+1)=p.take j++[x]:=eP f;rw [D];refine d5 (λn=> ?_) (λn=> ?_)
   ·have q:x∉g:=by simpa using n
    refine g9 (i9 (by omega) (λy B=> ?_));rw [i];refine z _ ⟨by simpa using h,k+1,j+1,rfl,rfl,by omega,by omega,?_,?_⟩ (by simp;omega)
    ·simp only [l6];rw [m,yt,<- w];have:(s.set k x)[k]? =some x:=by grind
     rw [yh,this];simp only [Option.toList_some,List.filter_cons,q,not_false_eq_true,decide_true,q9,List.filter_nil]
     congr 1
     exact List.take_set_of_le (by omega)
    ·simp only [l6];rw [List.drop_set_of_lt (by omega)];exact A
   ·have L:x∈g:=by simpa using n
    refine z _ ⟨h,k,j+1,rfl,rfl,by omega,by omega,?_,A⟩ (by simp;omega)
    grind
  ·refine j7 (by simp;omega) (b9 ⟨h,k,rfl,by omega,?_⟩)
   grind
 ·obtain ⟨x,a,t⟩:=a;refine ⟨rfl,r,r+1,rfl,by simp,by omega,by omega,?_,rfl⟩;simp only;rw [eP a,yt]
  have b:(p.take r).filter (λx=>decide (x∉g))=p.take r:=by
   refine List.filter_eq_self.2 (λy B=> ?_);obtain ⟨j,C,e⟩:=w6.1 B
   grind
  rw [b];simp [t]
theorem uE(p g:List Int)(t:p.length<=16):jq 2199023255552 p g=some (p.filter (λx=>decide (x∉g))):=by
 refine OK.is ?_;unfold jq
 have b:OK (jA p g) (λi=>(i= -1/\∀x∈p,x∉g)\/∃j:Nat,i=(j:Int)/\j<p.length/\(∃x,p[j]? =some x/\x∈g)/\∀q,q<j->∀x,p[q]? =some x->x∉g):=by
  unfold jA;refine d6 (i5 (Q:=λo=>match o with|.inl _=>∀x∈p,x∉g|.inr i=>∃j:Nat,i=(j:Int)/\j<p.length/\(∃x,p[j]? =some x/\x∈g)/\∀q,q<j->∀x,p[q]? =some x->x∉g) (λi _=>∀q,q<i->∀x,p[q]? =some x->x∉g) (λq r=>by omega) (λi s c a d k=> ?_) (λs d=> ?_)) (λo u=> ?_)
  ·unfold aM;refine g9 (i9 a (λx h=> ?_));rw [uM];simp only [zbs];refine d5 (λf=>b9 ⟨i,rfl,a,⟨x,h,by simpa using f⟩,d⟩) (λf=>k _ (λq r y v=> ?_))
   grind
  ·intro x h;obtain ⟨j,l,e⟩:=w6.1 h;exact d j l x (by grind)
  grind [b9]
 refine d6 b (λi a=> ?_);rcases a with ⟨rfl,m⟩|⟨j,rfl,l,h,n⟩
 ·refine o9 (by simp) (b9 ?_);exact (List.filter_eq_self.2 (λx h=>by grind)).symm
 ·refine j7 (by simp) ?_
  grind [gG,d6,Mh,cut,b9]
open Go.Sx
theorem DC.mdels(h:DC m)(g:List Int):DC (mdels m g):=by
 induction g generalizing m with
 |nil=>exact h
 |cons x g i=>exact i (h.mdel x)
theorem Hm(h:DC m)(g:List Int)(q:Int):ja (mdels m g) q=if q∈g then none else ja m q:=by
 induction g generalizing m with
 |nil=>simp [mdels]
 |cons x g i=>
  simp only [mdels];rw [i (h.mdel x),JM h]
  grind
theorem JU{a:Type}(f:b->a)(g:List Int)(m:List (Int×b)):(mdels m g).map (λp=>(p.1,f p.2))=mdels (m.map (λp=>(p.1,f p.2))) g:=by
 induction g generalizing m with
 |nil=>rfl
 |cons x g i=>simp only [mdels];rw [i,Mc]
def settled(r:zb)(g:List Int):zb:=
 {r with UY:=⟨r.UY.maps,mdels r.UY.held g⟩,Uj:=mdels r.Uj g,waiting:=r.waiting.filter (λx=>decide (x∉g))}
theorem Mi(p:zR)(x:Int):∃e,bL p [x]=some (e,⟨p.maps,mdel p.held x⟩):=by
 rw [Pf,d7 (by simp)];by_cases h:(ja p.held x).isSome=true
 ·rw [d7 (by simpa using h)];exact ⟨_,rfl⟩
 ·rw [d8 (by simpa using h)]
  have:ja p.held x=none:=by cases a:ja p.held x with
   |none=>rfl
   |some v=>rw [a] at h;simp at h
  rw [rE this];exact ⟨_,rfl⟩
theorem JV(r:zb)(g:List Int):jN (vD g) (λ(s:zb)=>s) g.length 0 r=some {r with UY:=⟨r.UY.maps,mdels r.UY.held g⟩,Uj:=mdels r.Uj g}:=by
 refine OK.is (i5 (λi s=>s={r with UY:=⟨r.UY.maps,mdels r.UY.held (g.take i)⟩,Uj:=mdels r.Uj (g.take i)}) rfl (λi s a b h k=> ?_) (λs h=> ?_))
 ·subst h;unfold vD;refine g9 (i9 b (λx c=> ?_));obtain ⟨e,d⟩:=Mi ⟨r.UY.maps,mdels r.UY.held (g.take i)⟩ x
  grind [eP,wZ]
 grind
theorem Mj(r:zb)(m:Int):(gn r m).Sublist r.waiting:=uL _ _ _
theorem JW(h:fK H M W n r)(m:Int):xd 2199023255552 r m=some (gn r m,settled r (gn r m)):=by
 refine OK.is ?_;unfold xd;refine d6 (JT h m) (λg a=> ?_);rw [JV];simp only [zbs];have b:=h.wlen;have hl:=h.len;rw [uE _ _ (by omega)];simp only [zbs];exact b9 (by rw [a];rfl)
theorem Pj(h:fK H M W n r)(b:a∈gn r d):∃x,ja r.Uj a=some x/\0<x.UD/\∀e∈r.Uo.in_,e=0\/x.UD<=e:=by
 obtain ⟨x,c,f⟩:=(h.VX a).1 ((Mj r d).subset b);refine ⟨x,c,f,?_⟩;have:=EQ _ _ _ a b;unfold ol at this;rw [c] at this
 simpa using this
theorem mi(h:fK H M W n r)(g:List Int)(q:Int):ja (settled r g).Uj q=if q∈g then none else ja r.Uj q:=Hm h.Vc g q
theorem ER(h:fK H M W n r)(c:n+1<=1000000000)(m:Int):fK H M W (n+1) (settled r (gn r m)):=by
 have a:=h.mono (n':=n+1) (by omega) c;refine {Uk:=a.Uk,hl:=a.hl,maps:=a.maps,Wa:=a.Wa,wk:=a.wk,VS:=a.VS,UZ:=c,VJ:=a.VJ,given:=a.given,VT:=a.VT,last:=a.last,VU:=a.VU,Vs:=a.Vs,Wu:=a.Wu,Vc:=h.Vc.mdels _,len:= ?_,prog:=λp x b=> ?_,held:= ?_,Wx:=h.Wx.sublist List.filter_sublist,VX:=λp=> ?_}
 ·have:=JJ (gn r m) r.Uj;have d:=h.len
  grind [settled]
 ·rw [mi h] at b;split at b
  ·cases b
  ·exact h.prog p x b
 ·simp only [settled];rw [h.held];exact (JU (λ(z:zS)=>z.module.Maps) _ _).symm
 ·rw [mi h];simp only [settled,List.mem_filter,zdq,h.VX p]
  grind
theorem CP(h:fK H M W n r)(p:Int):qR r p=some (match ja r.Uj p with|some x=>(x.module,true)|none=>(⟨[],[]⟩,false)):=by
 unfold qR;cases b:ja r.Uj p with
 |none=>rfl
 |some x=>
  have a:=h.prog p x b;have d:x.module.Maps.length<=4:=a.2.2.1.2.2;have c:=a.2.2.2.2.1;rw [d8 (by simp)];simp only [zbs];rw [Ga _ (by omega)];unfold zV room;rw [d7 (by simp;omega)];rfl
open Go.Sx
theorem Pst.bind2{b a:Type}{o:Option b}{f:b->Option a}{R:b->Prop}{Q:a->Prop}(c:Pst o R)(h:∀x,R x->Pst (f x) Q):Pst (o.bind f) Q:=λr e=>by
 obtain ⟨x,d,g⟩:=zI e;exact h x (c x d) r g
theorem p7:type_of% @Pst.bind2:=Pst.bind2
theorem My(h:uG H (pk i S)=some j):∃M b,qM H i S=some (j.1,M,b)/\j.2=pk M b:=by
 rw [OX] at h;obtain ⟨⟨a,M,b⟩,c,rfl⟩:=yp.1 h;exact ⟨M,b,c,rfl⟩
theorem Hu(h:nt (pk i S) l=some v):∃M,jE i l S=some (v.1,M)/\v.2=pk M S:=by
 rw [Jy] at h;obtain ⟨⟨e,M⟩,a,rfl⟩:=yp.1 h;exact ⟨M,a,rfl⟩
inductive Ru:zt->zm->List zk->List qT->Nat->Prop
 |stop {M M1:zt} {S S1:zm} {a:qT} {rs:List zk}:qM 2199023255552 M S=some (a,M1,S1)->a.TY=4->M1.steps=w64 (M.steps+1)->Ru M S rs [a] 0
 | ask {M M1 M2 : zt} {S S1 : zm} {a : qT} {c : zk} {rs : List zk} {l : List qT} {n : Nat} : qM 2199023255552 M S = some (a, M1, S1) -> a.TY = 2 -> jE M1 c S1 = some (0, M2) ->
   M2.steps=w64 (M.steps+1)->Ru M2 S1 rs l n->Ru M S (c::rs) (a::l) (n+1)
 |go {M M1:zt} {S S1:zm} {a:qT} {rs:List zk} {l:List qT} {n:Nat}:qM 2199023255552 M S=some (a,M1,S1)->a.TY=1\/a.TY=3->M1.steps=w64 (M.steps+1)->Ru M1 S1 rs l n->Ru M S rs (a::l) n
def RW(m:zE)(E:qr):zt:=⟨E,m,λ_=>0,λ_=>0,0,0,0⟩
theorem Kc(a:y.Maps.length*8<=140737488355328)(b:y.Code.length*40<=140737488355328)(h:xb 2199023255552 y=some (o,0,0))(E:qr)(S:zm):
  fA 2199023255552 y E S=some (some (RW y E),0,⟨⟨λ_=>0⟩,S.Uz⟩):=by
 unfold fA;rw [AA h];simp only [zbs];rw [d8 (by simp)];simp only [bW,Ov a,Ow b,zbs];rfl
theorem Mz(h:xb 2199023255552 y=some (o,d,a))(b:a≠0)(E:qr)(S:zm):
  fA 2199023255552 y E S=some (none,a,S):=by
 grind [fA,AA]
def U5(t:zP):Prop:=u64 t.VW/\u64 t.Vp/\u64 t.VD/\u64 t.Calls/\u64 t.Sum
def Ae(t u:zP):zP:=⟨vc (t.VW+u.VW),vc (t.Vp+u.Vp),vc (t.VD+u.VD),vc (t.Calls+u.Calls),vc (t.Sum+u.Sum)⟩
theorem MA(t u:zP):U5 (Ae t u):=⟨xh _,xh _,xh _,xh _,xh _⟩
theorem Tk(h:u64 d):vc (0+d)=d:=by rw [Int.zero_add,vf h.1 h.2]
theorem Rv(h:U5 z):na [z,A]=some (Ae z A):=by
 obtain ⟨a,b,c,d,e⟩:=h;show some (Ae (Ae ⟨0,0,0,0,0⟩ z) A)=_
 grind [Ae,Tk]
theorem Gn(a:0<=h)(b:h<4):fq h=some true:=by
 grind [fq]
theorem SU(a:0<=h)(b:h<4):ain 4 h=some h.toNat:=by grind [ain]
theorem Rw(a:0<=h)(b:h<4)(d:U5 (B.Uk h.toNat))(s c v:Int):cC B h s c v=some (0,⟨aset B.Uk h.toNat (Ae (B.Uk h.toNat) ⟨1,0,s,c,v⟩)⟩):=by
 grind [cC,Gn,SU,Rv]
def Gp(t:zP):zP:={t with Vp:=vc (t.Vp+1)}
theorem Kd(a:0<=h)(b:h<4):vW B [h]=some (0,⟨aset B.Uk h.toNat (Gp (B.Uk h.toNat))⟩):=by
 unfold vW
 have e:jN (vU B [h]) (λ(c:Unit)=>(.inl ())) ([h]).length 0 ()=some (.inl ()):=by
  show vU B [h] 0 _ ()=_;unfold vU;have:idx [h] ((0:Nat):Int)=some h:=rfl;rw [this];simp only [zbs,Gn a b];rfl
 have d:jN (vV [h]) (λ(s:zU)=>s) ([h]).length 0 B=some ⟨aset B.Uk h.toNat (Gp (B.Uk h.toNat))⟩:=by
  show vV [h] 0 _ B=_;unfold vV;have:idx [h] ((0:Nat):Int)=some h:=rfl;rw [this];simp only [zbs,SU a b];rfl
 grind
def RX(s:zU):Prop:=∀i,U5 (s.Uk i)
theorem RX.aset(h:RX B)(k:Nat)(a:U5 z):RX ⟨Go.Sx.aset B.Uk k z⟩:=by
 intro i;show U5 (Go.Sx.aset B.Uk k z i);unfold Go.Sx.aset;split
 ·exact a
 ·exact h i
theorem Ke(h:U5 z):U5 (Gp z):=⟨h.1,xh _,h.2.2.1,h.2.2.2.1,h.2.2.2.2⟩
end Go.Proofs.YtplmgfkghomelaaGreatDoor
namespace Go.Proofs.YtplmgfkghomelaaGreatDoor.KH
open Go.Sx
variable {x f i e:Int}{a:qB}{o:zc}{l:List zr}{m:Nat}{j:qm}{d:jM}{v:List jM}{c:zH}
theorem F0{b c:Type}{body:Nat->(b->Option c)->b->Option c}{out:b->c}{I:b->Prop}{Q:c->Prop}
  (h:∀i s (a:b->Option c),I s->(∀d,I d->Pst (a d) Q)->Pst (body i a s) Q) (f:∀s,I s->Q (out s)):
  ∀(n i:Nat)(s:b),I s->Pst (jN body out n i s) Q
 |0,i,s,e=>i7 (f s e)
 |n+1,i,s,e=>h i s _ e λd g=>F0 h f n (i+1) d g
def VM(l:List zr):Prop:=∀p∈l,u64 p.UQ
theorem z64:u64 0:=⟨by decide,by decide⟩
theorem VM.at(h:VM l):Pst (Go.Sx.idx l x) (λp=>u64 p.UQ):=λp e=>by
 unfold Go.Sx.idx at e;split at e
 ·exact h p (zmg e)
 ·cases e
theorem pX{b:qo}(h:VM b.Ug){op k:Int}(s:u64 x):Pst (jR m b op k x) (λr=>VM r.2.Ug/\u64 r.1.UQ):=by
 unfold jR;refine k7 (i7 ⟨h,z64⟩) (j4 λf=> ?_);refine p7 (R:=λo=>u64 o.UQ) (k7 (p7 h.at λp a=>i7 a) (i7 z64)) λo c=> ?_
 refine k7 (k7 (p7 (R:=VM) (λl e p a=> ?_) λl hl=>i7 ⟨hl,c⟩) (i7 ⟨h,c⟩)) ?_
 ·obtain ⟨i,j,_,_,_,_,rfl⟩:=pJ e;rcases f8.1 a with a|a
  ·exact h p (Tz a)
  ·exact h p (List.mem_of_mem_drop a)
 refine j4 λg=>k7 (k7 (i7 ⟨h,z64⟩) ?_) (i7 ⟨h,c⟩)
 refine p7 (R:=λb:qo=>VM b.Ug) (k7 (p7 (R:=λq=>VM q.1) (λq e p a=> ?_) λq d=>i7 d) (i7 h)) λt n=> ?_
 ·obtain ⟨i,_,_,_,rfl⟩:=Cc e;rcases f8.1 a with a|a
  ·rcases f8.1 a with a|a
   ·exact h p (Tz a)
   ·rw [g8.1 a];exact z64
  ·exact h p (List.mem_of_mem_drop a)
 refine p7 (R:=λq:Int×zk=>u64 q.1/\u64 q.2.UQ) (k7 (i7 ⟨xh _,xh _⟩) (i7 ⟨s,c⟩)) λq d=> ?_
 refine j4 λy=>i7 ⟨λp a=> ?_,d.2⟩
 rcases r9 a with a|rfl
 ·exact n p a
 ·exact d.1
theorem rZ:Pst (xL m a x) (λr=>r.Vl=a.Vl):=by
 unfold xL;exact j4 λ_=>i7 rfl
theorem EE:Pst (vd m a x) (λr=>r.Vl=a.Vl):=by
 unfold vd;exact p7 rZ λr h=>j4 λ_=>i7 h
theorem LY(h:VM a.Vl.Ug)(l:u64 x):Pst (ez m a f i x) (λr=>VM r.2.Vl.Ug/\u64 r.1.UQ):=by
 unfold ez;refine p7 (pX h l) λr n=> ?_
 refine p7 (R:=λo:qB×zk=>VM o.1.Vl.Ug/\u64 o.2.UQ) (k7 ?_ (i7 n)) λo c=> ?_
 ·refine p7 (R:=λe:qB×zk=>VM e.1.Vl.Ug) ?_ λe p=>p7 (pX p l) λq t=>i7 t
  unfold cT;refine j4 λy=>p7 (pX (b:=r.2) (op:=3) (k:=y) n.1 z64) λs u=> ?_
  exact p7 rZ λd j=>i7 (by show VM d.Vl.Ug;rw [j];exact u.1)
 ·refine k7 (i7 ⟨c.1,c.2⟩) (j4 λg=>k7 (p7 EE λd j=>i7 ⟨by show VM d.Vl.Ug;rw [j];exact c.1,c.2⟩) (k7 (p7 rZ λd j=>i7 ⟨by show VM d.Vl.Ug;rw [j];exact c.1,c.2⟩) (i7 ⟨c.1,c.2⟩)))
def shv(s:qm):List zr:=match s with
 |.inl b=>b.Ug
 |.inr a=>a.Vl.Ug
theorem G5(h:VM (shv j))(d:u64 x):Pst (jG m j f i x) (λr=>VM (shv r.2)/\u64 r.1.UQ):=by
 cases j with
 |inl b=>unfold jG;exact p7 (pX h d) λr c=>i7 c
 |inr a=>unfold jG;exact p7 (LY h d) λr c=>i7 c
structure G6 (o:zc):Prop where
 maps:∀s∈o.maps,VM (shv s)
 TZ:∀r∈o.TZ,u64 r.Item.UQ
theorem Cu(h:G6 o):Pst (jJ m o) (λq=>u64 q.1.UJ.UQ/\∀s∈q.2.2.maps,VM (shv s)):=by
 unfold jJ;refine k7 (i7 ⟨z64,h.maps⟩) ?_;refine p7 (R:=λx=>u64 x.Item.UQ) (λx e=> ?_) λx c=>j4 λy=>k7 (j4 λs=>j4 λp=>i7 ⟨z64,h.maps⟩) ?_
 ·unfold Go.Sx.idx at e;split at e
  ·exact h.TZ x (zmg e)
  ·cases e
 refine p7 (R:=λs=>VM (shv s)) (λs e=> ?_) λs d=>p7 (G5 d c) λq b=>i7 ⟨b.2,λt a=> ?_⟩
 ·unfold Go.Sx.idx at e;split at e
  ·exact h.maps s (zmg e)
  ·cases e
 ·rcases r9 a with a|rfl
  ·exact h.maps t a
  ·exact b.1
theorem EF(h:eH d=some (some j,0)):shv j=[]:=by
 unfold eH at h;split at h
 ·rcases tM d.Wo with e|⟨b,e,_,a⟩
  ·rw [e] at h;cases h
  ·rw [e] at h;simp [vK] at h;subst h;exact a
 ·split at h
  ·unfold rQ at h;rcases tM d.Wo with e|⟨b,e,_,a⟩
   ·rw [e] at h;simp [vK] at h
   ·rw [e] at h;simp [vK] at h;subst h;exact a
  ·cases h
theorem EG(h:cg x f v=some (some o,e)):G6 o:=by
 have:Pst (cg x f v) (λq=>∀o,q.1=some o->G6 o):=by
  unfold cg;refine k7 (i7 λo e=>by cases e) ?_;refine p7 (R:=λq=>match q with|.inl o=>G6 o|.inr z=>z.1=none) (λq e=> ?_) λq a=> ?_
  ·exact F0 (I:=λo=>G6 o) (Q:=λq=>match q with|.inl o=>G6 o|.inr z=>z.1=none) (λi o g c l=>by
    unfold iY;refine j4 λd=> ?_
    intro q a;rcases Cq d with ⟨e,n,s⟩|⟨m,k,_⟩
    ·rw [n] at a;simp only [zbs,vK] at a;split at a
     ·cases a;rfl
     ·cases a
    ·have j:=EF k;rw [k] at a;simp only [zbs,vK] at a;rw [d8 (by simp)] at a;revert q;refine j4 λ_=>l _ ⟨λt b=> ?_,c.TZ⟩
     rcases f8.1 b with b|b
     ·exact c.maps t b
     ·rw [g8.1 b,j];exact λp u=>by cases u) (λo c=>c) _ _ _ ⟨λt b=>(by cases b),λr w=>(by cases w)⟩ q e
  ·cases q with
   |inl o=>exact i7 λy e=>by cases e;exact a
   |inr z=>exact i7 λy e=>by rw [show z.1=none from a] at e;cases e
 exact this _ h o rfl
open Go.Sx
theorem G7{fu:Nat}(t:0<=c.Ui)(C:c.Ui<=4)(v:10<fu):
  ∃o,loop (oP c) fu ([],0)=some o/\match o with
   |.inl os=>(os.length:Int)=c.Ui/\∀(i:Nat)(x:zc),os[i]? =some x->kF x/\x.TZ=[]/\x.Ue=false/\x.UX=c.Ui/\x.Vu=i/\x.maps.length=c.Maps.length/\G6 x
   |.inr z=>z.1=none/\z.2≠0:=by
 refine mf (λm s=>(s.1.length:Int)=s.2/\s.2<=c.Ui/\s.2+m=c.Ui/\∀(i:Nat)(x:zc),s.1[i]? =some x->kF x/\x.TZ=[]/\x.Ue=false/\x.UX=c.Ui/\x.Vu=i/\(x.maps.length=c.Maps.length/\G6 x)) _ (λm s d w y=> ?_) fu c.Ui.toNat ([],0) (by omega) ⟨rfl,t,by grind,λi x h=>by simp at h⟩;obtain ⟨a,i⟩:=s;obtain ⟨g,k,l,D⟩:=w;have g:(a.length:Int)=i:=g;have k:i<=c.Ui:=k;have l:i+m=c.Ui:=l;unfold oP;show ∃r,(if decide (i<c.Ui)=true then _ else _)=some r/\_;by_cases n:i<c.Ui
 ·rw [d7 (by simpa using n)];rcases Ct i c.Ui c.Maps with ⟨e,p,f⟩|⟨r,p,E,F,G,I,J,K,_⟩
  ·exact ⟨.inr (none,e),by grind [vK],rfl,f⟩
  ·rw [show cg (a,i).2 c.Ui c.Maps=_ from p,zbs];simp only [vK];rw [d8 (by simp)];obtain ⟨u,A⟩:=cX (m:=a.length+[r].length) (b:=8) (by grind);rw [A,zbs,qq (by omega) (by omega)];refine y (m-1) _ (by omega) ⟨?_,?_,?_,λj x h=> ?_⟩
   ·grind
   ·grind
   ·grind
   ·have h:(a++[r])[j]? =some x:=h;rcases Nat.lt_or_ge j a.length with q|q
    ·grind
    ·rw [Tu q] at h
     have B:j-a.length=0:=by
      grind
     grind [EG]
 ·rw [d8 (by simpa using n)]
  grind
end Go.Proofs.YtplmgfkghomelaaGreatDoor.KH
namespace Go.Proofs.YtplmgfkghomelaaGreatDoor
open Go.Sx
variable {K a f:Nat}{M:zt}{m:zE}{S:zm}{j:zj}{d:zl}{q:qa}{e:Int}{c:zk}
def Q4(K:Nat)(w:zl)(s:Int):Prop:=∃m j M p i,w.UE.VK=some M/\Cd m j/\(∀x∈m.Maps,x<(K:Int))/\Run m j (pk M w.UM) p/\M.state=s/\m.Code[p]? =some i/\(s=1->i.Op=21/\i.UN<=4)
structure WJ (H K:Nat) (w:zl):Prop where
 told:RX w.Vh
 hook:0<=w.UE.hook/\w.UE.hook<H
 ev:u64 w.UE.UK.Uv.A/\u64 w.UE.UK.Uv.B
 is:w.Ua=0\/w.Ua=1\/(w.Ua=2/\Q4 K w 0)\/(w.Ua=3/\Q4 K w 1)
def oj(w:zl):Int:=match w.UE.VK with
 |none=>0
 |some M=>pot M.module.Code M.LT M.Uw.toNat M.module.Code.length
theorem lC{w:zl}(a:w.UE.VK=some M)(h:Run m j (pk M w.UM) K):oj w=pot m.Code M.LT K m.Code.length:=by
 have b:M.module=m:=h.VY;have c:M.Uw=K:=h.Uw
 grind [oj,pot]
theorem uz5:U5 ⟨0,0,0,0,0⟩:=⟨⟨by decide,by decide⟩,⟨by decide,by decide⟩,⟨by decide,by decide⟩,⟨by decide,by decide⟩,by decide,by decide⟩
theorem LZ:u64 0/\u64 0:=⟨⟨by decide,by decide⟩,by decide,by decide⟩
theorem WJ.new{H:Nat}(h:1<=H):∃w,fk=some w/\WJ H K w/\w.Ua=0/\w.UE.hook=0:=by
 refine ⟨_,rfl,⟨λi=>uz5,⟨x4 0,by grind⟩,LZ,.inl rfl⟩,rfl,rfl⟩
theorem Q5(h:WJ a K d)(f:a<=4)(g:d.Ua=0){k:Int}(b:0<=k)(c:k<a)(e:u64 q.Uv.A/\u64 q.Uv.B):
  vT d k q=some (0,{d with Ua:=1,UE:=⟨k,q,0,0,0,none⟩})/\WJ a K {d with Ua:=1,UE:=⟨k,q,0,0,0,none⟩}:=by
 refine ⟨?_,⟨h.told,⟨b,c⟩,e,.inr (.inl rfl)⟩⟩
 grind [vT]
theorem Q6(h:WJ a K d)(b:1<=a)(e:a<=4)(c:d.Ua=1):
  ∃s,xO d=some (0,⟨d.UM,s,0,⟨0,⟨0,⟨0,0⟩⟩,0,0,0,none⟩⟩)/\WJ a K ⟨d.UM,s,0,⟨0,⟨0,⟨0,0⟩⟩,0,0,0,none⟩⟩:=by
 refine ⟨⟨aset d.Vh.Uk d.UE.hook.toNat (Gp (d.Vh.Uk d.UE.hook.toNat))⟩,?_,⟨h.told.aset _ (Ke (h.told _)),⟨x4 0,by grind⟩,LZ,.inl rfl⟩⟩;unfold xO;have:=h.hook;rw [d8 (by simp [c]),Kd this.1 (by omega)];rfl
theorem Cw(h:WJ a K d)(l:d.Ua=1)(c:m.Maps.length*8<=140737488355328)(f:m.Code.length*40<=140737488355328)(r:∀x∈m.Maps,x<(K:Int))(v p:Int):
  ∃e w,jY 2199023255552 d v p m=some (e,w)/\WJ a K w/\((e≠0/\w=d/\∃o q,xb 2199023255552 m=some (o,q,e))\/
   (e=0/\w=⟨⟨⟨λ_=>0⟩,d.UM.Uz⟩,d.Vh,2,⟨d.UE.hook,d.UE.UK,v,p,d.UE.calls,some (RW m d.UE.UK.Uv)⟩⟩/\oj w<=wF m.Code m.Code.length)):=by
 obtain ⟨o,q,e,g,s⟩:=ng m;rcases s with ⟨b,t⟩|⟨b,u,j,t,k⟩
 ·refine ⟨e,d,?_,h,.inl ⟨b,rfl,o,q,g⟩⟩;unfold jY;rw [d8 (by simp [l]),Mz g b];simp only [zbs];show (if (e !=0)=true then _ else _)=_;rw [d7 (by simpa using b)]
 ·subst b u;have n:Run m j (pk (RW m d.UE.UK.Uv) ⟨⟨λ_=>0⟩,d.UM.Uz⟩) 0:=S6 k h.ev d.UM.Uz;obtain ⟨i,y,_⟩:=aR n.lt;refine ⟨0,_,?_,?_,.inr ⟨rfl,rfl,?_⟩⟩
  ·unfold jY;rw [d8 (by simp [l]),Kc c f g];rfl
  ·exact ⟨h.told,h.hook,h.ev,.inr (.inr (.inl ⟨rfl,m,j,RW m d.UE.UK.Uv,0,i,rfl,k,r,n,rfl,y,λe=>by cases e⟩))⟩
  ·exact JD k.VA
theorem G8(a:uN M.regs):Pst (jZ 2199023255552 M e S) (λr=>u64 r.1.Item.UV/\u64 r.1.Item.UQ):=by
 unfold jZ;refine j4 λ_=>k7 (j4 λ_=>j4 λ_=>p7 (R:=λo=>u64 o) (k7 (i7 (a 3 (by decide))) (i7 ⟨by decide,by decide⟩)) λo h=>i7 ⟨a 2 (by decide),h⟩) ?_
 exact p7 (R:=λo:zt×zm×qT=>u64 o.2.2.Item.UV/\u64 o.2.2.Item.UQ) (k7 (j4 λ_=>i7 LZ) (i7 LZ)) (λo h=>i7 h)
theorem G9(h:uN M.regs):Pst (qM 2199023255552 M S) (λr=>u64 r.1.Item.UV/\u64 r.1.Item.UQ):=by
 unfold qM;refine k7 (i7 LZ) (k7 (j4 λ_=>j4 λ_=>i7 LZ) (j4 λ_=>k7 ?_ (k7 (j4 λ_=>i7 LZ) (j4 λ_=>i7 LZ))))
 grind [p7,u64,G8,w64,i7]
inductive Cx (H K:Nat) (w:zl) (a:qT) (w':zl):Prop
 |ends:a.TY=4->w'.Ua=0->w'.UE=⟨0,⟨0,⟨0,0⟩⟩,0,0,0,none⟩->Cx H K w a w'
 |asks:a.TY=2->w'.Ua=3->w'.UE.hook=w.UE.hook->w'.UE.UK=w.UE.UK->w'.UE.prog=w.UE.prog->w'.UE.Ux=w.UE.Ux->(0<=a.Item.UI/\a.Item.UI<K/\0<=a.Item.Op/\a.Item.Op<5/\u64 a.Item.UV/\u64 a.Item.UQ)->oj w'<=oj w->Cx H K w a w'
 |goes:a.TY=1\/a.TY=3->w'.Ua=2->w'.UE.hook=w.UE.hook->w'.UE.UK=w.UE.UK->w'.UE.prog=w.UE.prog->w'.UE.Ux=w.UE.Ux->oj w'+1<=oj w->Cx H K w a w'
theorem Jr(I:1<=f)(Q:f<=4)(h:WJ f K d)(s:d.Ua=2):∃a t,qA 2199023255552 d=some (a,true,t)/\WJ f K t/\Cx f K d a t:=by
 obtain ⟨m,j,M,p,i,F,r,v,x,J,G,_⟩:Q4 K d 0:=by
  rcases h.is with e|e|e|e
  ·omega
  ·omega
  ·exact e.2
  ·omega
 obtain ⟨⟨a,L⟩,N,y,O⟩:=Lz r x J G;obtain ⟨c,S,z,rfl⟩:=My N;simp only at z;have hit:u64 a.Item.UV/\u64 a.Item.UQ:=G9 x.u _ z;have A:d.UE.hook<4:=by have:=h.hook.2;omega
 have hl:oj d=pot m.Code M.LT p m.Code.length:=lC F x;unfold qA;rw [d8 (by simp [s]),F];simp only [zbs,z];cases y with
 |ends n b g B=>
  simp only at b;rw [d8 (by simp [b]),d7 (by simp [b])];unfold aB;simp only [zbs];rw [Rw h.hook.1 A (h.told _)];simp only [zbs];exact ⟨a,_,rfl,⟨h.told.aset _ (MA _ _),⟨x4 0,by grind⟩,LZ,.inl rfl⟩,.ends b rfl rfl⟩
 |asks n b g B C D o=>
  simp only at g B C D o;rw [d7 (by simp [g])];refine ⟨a,_,rfl,{h with is:=.inr (.inr (.inr ⟨rfl,m,j,c,p,i,rfl,r,v,C,B,G,λ_=>⟨n,b⟩⟩))},.asks g rfl rfl rfl rfl rfl ⟨?_,v _ o.1,o.2.1,o.2.2,hit.1,hit.2⟩ ?_⟩
  ·exact (r.goodM.1 _ o.1).1
  ·rw [hl];show oj ⟨S,d.Vh,3,⟨d.UE.hook,d.UE.UK,d.UE.Ux,d.UE.prog,vc (d.UE.calls+1),some c⟩⟩<=_;rw [lC (w:=⟨S,d.Vh,3,⟨d.UE.hook,d.UE.UK,d.UE.Ux,d.UE.prog,vc (d.UE.calls+1),some c⟩⟩) rfl C];have D:c.LT=M.LT:=D
   grind
 |goes n b g=>
  simp only at n b g;obtain ⟨q,k,l,_⟩:=g;have l:pot m.Code c.LT q m.Code.length+1<=pot m.Code M.LT p m.Code.length:=l;obtain ⟨P,E,_⟩:=aR k.lt;rw [d8 (by simp;omega),d8 (by simp;omega)];refine ⟨a,_,rfl,⟨h.told,h.hook,h.ev,.inr (.inr (.inl ⟨s,m,j,c,q,P,rfl,r,v,k,b,E,λe=>by cases e⟩))⟩,.goes n s rfl rfl rfl rfl ?_⟩;rw [hl,lC (w:=⟨S,d.Vh,d.Ua,⟨d.UE.hook,d.UE.UK,d.UE.Ux,d.UE.prog,d.UE.calls,some c⟩⟩) rfl k];exact l
theorem lD(h:WJ a K d)(x:d.Ua=3)(y:u64 c.UQ):∃g,xn d c=some (0,g)/\WJ a K g/\g.Ua=2/\g.UE.hook=d.UE.hook/\g.UE.UK=d.UE.UK/\g.UE.prog=d.UE.prog/\g.UE.Ux=d.UE.Ux/\oj g+1<=oj d:=by
 obtain ⟨m,j,M,p,i,o,r,z,t,A,B,l⟩:Q4 K d 1:=by
  rcases h.is with e|e|e|e
  ·omega
  ·omega
  ·omega
  ·exact e.2
 obtain ⟨l,C⟩:=l rfl;obtain ⟨⟨e,D⟩,E,u,s,q,b,f,_⟩:=IZ r t A B l C y;obtain ⟨k,v,rfl⟩:=Hu E;simp only at v u s b f;have f:pot m.Code k.LT q m.Code.length+1<=pot m.Code M.LT p m.Code.length:=f;have s:k.state=0:=s;subst u;obtain ⟨F,n,_⟩:=aR b.lt;unfold xn;rw [d8 (by simp [x]),o];simp only [zbs,v];refine ⟨_,rfl,⟨h.told,h.hook,h.ev,.inr (.inr (.inl ⟨rfl,m,j,k,q,F,rfl,r,z,b,s,n,λe=>by cases e⟩))⟩,rfl,rfl,rfl,rfl,rfl,?_⟩;rw [lC o t,lC (w:={d with Ua:=2,UE:=⟨d.UE.hook,d.UE.UK,d.UE.Ux,d.UE.prog,d.UE.calls,some k⟩}) rfl b];exact f
end Go.Proofs.YtplmgfkghomelaaGreatDoor
namespace Go.Proofs.YtplmgfkghomelaaGreatDoor.KH
open Go.Sx
variable {i a:Nat}{c:zH}{w0:zl}{l:List zF}{ss:List (List zF)}{n:Int}{o:zc}{r:zq}
theorem iN{a:Type}{l:List a}{x:a}(h:l[i]? =some x):l.take (i+1)=l.take i++[x]:=by
 rw [yh,h];rfl
def nj(w:zl):zA:=⟨w,0,0,none,false⟩
def RN:zy:=⟨0,0,[],[]⟩
def tg(s:List zF):zd:=⟨s,0,false,0,RN,[],[]⟩
theorem I7(h:fk=some w0)(t:0<=c.Uc)(v:c.Uc<=4)(g:10<a):
  loop (lV c) a ([],0)=some (List.replicate c.Uc.toNat (nj w0)):=by
 obtain ⟨r,j,rfl⟩:=mf (body:=lV c) (λm s=>∃n:Nat,s.2=(n:Int)/\s.1=List.replicate n (nj w0)/\(n:Int)+m=c.Uc) (λr=>r=List.replicate c.Uc.toNat (nj w0)) (λm s d k o=>by
  obtain ⟨l,i⟩:=s;obtain ⟨n,e,f,w⟩:=k;have e:i=(n:Int):=e;have f:l=List.replicate n (nj w0):=f;subst e f;unfold lV;show ∃r,(if decide ((n:Int)<c.Uc)=true then _ else _)=some r/\_;by_cases p:(n:Int)<c.Uc
  ·rw [d7 (by simpa using p),h,zbs];obtain ⟨u,q⟩:=cX (m:=(List.replicate n (nj w0)).length+[nj w0].length) (b:=8) (by grind);rw [show room ((List.replicate n (nj w0),(n:Int)).1.length+[zA.mk w0 0 0 none false].length) 8=some u from q,zbs,qq (by omega) (by omega)];refine o (m-1) _ (by omega) ⟨n+1,by grind,?_,by omega⟩;show List.replicate n (nj w0)++[nj w0]=_;rw [List.replicate_succ']
  grind) a c.Uc.toNat ([],0) (by omega) ⟨0,rfl,rfl,by omega⟩
 exact j
structure Fit (c:zF):Prop where
 items:c.UC.length*32<=140737488355328
 VY:c.Uq.length<=140737488355328
 ev:u64 c.Uv.A/\u64 c.Uv.B
 it:u64 c.Item.UQ
 its:∀i∈c.UC,u64 i.UQ
theorem Ef(l:List zF)(h:∀c∈l,Fit c):(l.foldlM (λ(_:Unit)c=>(zK c.UC).bind λ_=>(qQ c.Uq).bind λ_=>some ()) ())=some ():=by
 induction l with
 |nil=>rfl
 |cons c l i=>
  have a:=h c zcs;obtain ⟨u,d⟩:=cX (m:=([]:List zg).length+c.UC.length) (b:=32) (by have:=a.items;simpa using this);obtain ⟨v,e⟩:=cX (m:=([]:List Int).length+c.Uq.length) (b:=1) (by have:=a.VY;simpa using this);rw [List.foldlM_cons];unfold zK qQ;rw [d,e];exact i λx f=>h x (zcm _ f)
theorem I8(hl:l.length<=64)(h:∀c∈l,Fit c):cj l=some l:=by
 unfold cj;obtain ⟨u,a⟩:=cX (m:=0+l.length) (b:=128) (by omega)
 grind [zK,qQ,Ef]
theorem Eg(p:ss.length<=4)(j:∀s∈ss,∀c∈s,Fit c):
  ∃o,jN (oQ ss) (λ(s:List zd)=>(.inl s)) ss.length 0 ([]:List zd)=some o/\match o with
   |.inl l=>l=ss.map tg/\∀s∈ss,s.length<=64
   |.inr z=>z.1=none/\z.2≠0:=by
 refine nS (N:=ss.length) (λi l=>l=(ss.take i).map tg/\∀s∈ss.take i,s.length<=64) _ (λi s a d e k=> ?_) (λs h=> ?_) ss.length 0 [] (by omega) ⟨rfl,λs h=>by simp at h⟩
 ·obtain ⟨rfl,e⟩:=e;unfold oQ;rw [oE d,zbs];have f:ss[i]? =some ss[i]:=zeg d;by_cases g:((ss[i].length:Nat):Int)>64
  ·rw [d7 (by simpa using g)]
   grind
  ·rw [d8 (by simpa using g),I8 (by omega) (j _ (yi d)),zbs];obtain ⟨u,n⟩:=cX (m:=((ss.take i).map tg).length+[tg ss[i]].length) (b:=8) (by grind);rw [show room (((ss.take i).map tg).length+[zd.mk ss[i] 0 false 0 (zy.mk 0 0 ([]:List zk) ([]:List zr)) ([]:List (List zr)) ([]:List zy)].length) 8=some u from n,zbs];refine k _ ⟨?_,λs h=> ?_⟩
   ·show (ss.take i).map tg++[tg ss[i]]=_;rw [iN f,k8];rfl
   ·rw [iN f] at h
    grind
 grind
structure KG (c:zH) (ss:List (List zF)) (h:za):Prop where
 hk:1<=c.Up/\c.Up<=4
 wk:1<=c.Uc/\c.Uc<=4
 sh:1<=c.Ui/\c.Ui<=4
 mp:c.Maps.length<=4
 cl:1<=ss.length/\ss.length<=4
 sl:∀s∈ss,s.length<=64
 is:∃r os rs w0,fk=some w0/\fK c.Up.toNat c.Maps.length c.Uc.toNat 0 r/\r.given=0/\r.Us.UB.last=0/\(r.Uj=[]/\∀u∈r.Us.Uk,u.Ux=0)/\r.waiting=[]/\r.Uo.in_=List.replicate c.Uc.toNat 0/\
  ((os.length:Int)=c.Ui/\∀(i:Nat)(x:zc),os[i]? =some x->kF x/\x.TZ=[]/\x.Ue=false/\x.UX=c.Ui/\x.Vu=i/\x.maps.length=c.Maps.length/\G6 x)/\
  ((rs.length:Int)=c.Up/\∀r∈rs,lB r/\r.waiting=[]/\r.Vj=false/\r.room=c.UT/\r.counts=⟨0,0,0,0,0⟩)/\
  h=⟨r,⟨List.replicate (ss.length+c.Uc.toNat+c.Ui.toNat+1) ⟨0,0⟩,0⟩,c,ss.map tg,List.replicate c.Uc.toNat (nj w0),os,rs,[],[],0,false,false,[],⟨0⟩⟩
theorem Eh{fu:Nat}(b:10<fu)(c:zH)(ss:List (List zF))(x:∀s∈ss,∀c∈s,Fit c):
  (∃e,eI fu c ss=some (none,e)/\e≠0)\/∃h,eI fu c ss=some (some h,0)/\KG c ss h:=by
 by_cases n:¬ (1<=c.Up/\c.Up<=4/\0<=(c.Maps.length:Int)/\(c.Maps.length:Int)<=4/\1<=c.Uc/\c.Uc<=4)
 ·refine .inl ⟨2,?_,by decide⟩;unfold eI;rw [Pg n];rfl
 obtain ⟨y,o,P,Q,A,p⟩:=Classical.not_not.1 n;obtain ⟨r,q,B,C,D,E,F,G⟩:=Re (H:=c.Up.toNat) (M:=c.Maps.length) (W:=c.Uc.toNat) (by omega) (by omega) (by omega) (by omega) (by omega);rw [show ((c.Up.toNat:Nat):Int)=c.Up by omega,show ((c.Uc.toNat:Nat):Int)=c.Uc by omega] at q;by_cases R:c.Ui<1\/c.Ui>4\/(ss.length:Int)<1\/(ss.length:Int)>4
 ·refine .inl ⟨2,?_,by decide⟩
  grind [eI,vK]
 have a:(1<=c.Ui/\c.Ui<=4)/\1<=ss.length/\ss.length<=4:=by omega
 have key:(∃e,eI fu c ss=some (none,e)/\e≠0)\/∃h,eI fu c ss=some (some h,0)/\KG c ss h:=by
  unfold eI;rw [q,zbs];simp only [vK];rw [d8 (by grind)];obtain ⟨I,j,t⟩:=Jq (c:=c) (fu:=fu) (by omega) o b;rw [j,zbs];cases I with
  |inr z=>obtain ⟨u,d⟩:=z;obtain ⟨v,f⟩:=t;exact .inl ⟨d,by grind,f⟩
  |inl J=>
   simp only;obtain ⟨L,k,w⟩:=G7 (c:=c) (fu:=fu) (by omega) a.1.2 b;rw [k,zbs];cases L with
   |inr z=>obtain ⟨u,d⟩:=z;obtain ⟨v,f⟩:=w;exact .inl ⟨d,by grind,f⟩
   |inl os=>
    simp only;obtain ⟨w0,g,_⟩:=WJ.new (H:=1) (K:=0) (k9 1);rw [I7 g (by omega) p b,zbs];obtain ⟨N,m,i⟩:=Eg a.2.2 x;rw [m,zbs];cases N with
    |inr z=>obtain ⟨u,d⟩:=z;obtain ⟨v,f⟩:=i;exact .inl ⟨d,by grind,f⟩
    |inl l=>
     obtain ⟨rfl,i⟩:=i;simp only
     have O:nR (w64 ((w64 ((w64 (((ss).length:Int)+c.Uc))+c.Ui))+1))=some (some ⟨List.replicate (ss.length+c.Uc.toNat+c.Ui.toNat+1) ⟨0,0⟩,0⟩,0):=by
      grind [qq,nR,mkLen]
     rw [O,zbs];exact .inr ⟨_,rfl,⟨y,o⟩,⟨A,p⟩,a.1,by omega,a.2,i,r,os,J,w0,g,B,C,D,E,F,G,w,t,rfl⟩
 exact key
open Go.Sx
theorem AG{k:Int}(e:1<=n)(f:n<=4):∃i:Nat,aA k n=some (i:Int)/\(i:Int)<n:=by
 unfold aA;rw [d8 (by simp;omega)];have a:nz (vc n)=some ():=by grind [nz,AV]
 rw [a,zbs,AV (x:=n) (by omega) (by omega)];generalize c:kr .u64 (vc (k*11400714819323198485)) 32=b
 have h:0<=b:=by
  have d:=(xh (k*11400714819323198485)).1;rw [<- c];show 0<=(vc (k*11400714819323198485)).fdiv (2^(min (Int.toNat 32) IntKind.u64.bits));rw [Int.fdiv_eq_ediv_of_nonneg _ (by grind)];exact Int.ediv_nonneg d (Int.le_of_lt (Int.pow_pos (by decide)))
 have g:=Int.tmod_lt_of_pos b (show 0<n by omega);have j:=Int.tmod_nonneg n h;rw [qq (by omega) (by omega)];exact ⟨(b.tmod n).toNat,by grind,by omega⟩
theorem I9(h:o.Ue=false)(a:0<=r.Item.UI)(c:r.Item.UI<o.maps.length)(g:r.Vw=true\/(0<=r.Item.Op/\r.Item.Op<5/\aA r.Item.UV o.UX=some o.Vu))
  (d:(o.TZ.length+1)*56<=140737488355328):jI o [r]=some (0,{o with TZ:=o.TZ++[r]}):=by
 have e:xU o r=some true:=by
  grind [xU]
 have f:Go.Sx.idx [r] ((0:Nat):Int)=some r:=rfl;unfold jI;rw [d8 (by simp [h])];simp only [u4,yj,jN,ii,f,zbs,e];obtain ⟨u,i⟩:=cX (m:=o.TZ.length+1) (b:=56) d
 grind
end Go.Proofs.YtplmgfkghomelaaGreatDoor.KH
